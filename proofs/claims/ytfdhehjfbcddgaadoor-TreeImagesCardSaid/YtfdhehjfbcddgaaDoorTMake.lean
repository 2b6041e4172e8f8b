/- (tree.Tree).make: adds a node. Condition: the nodes are not more than a million. -/
import Derived.Test.YtfdhehjfbcddgaaDoorTMove
import Derived.Deep.RegionHeld3
namespace Go.Proofs.YtfdhehjfbcddgaaDoor.Pr
open Go.RowKit Go.Proofs.YtfdhehjfbcddgaaDoorW.PrintWords Go.Proofs.YtfdhehjfbcddgaaDoorW.PrintLast Go.Proofs.YtfdhehjfbcddgaaDoor
set_option linter.unusedVariables false
theorem blk_new2 (w : World) (o1 o2 : Obj) (t : TypeId) (cs : Array Value) : Blk (((w.alloc o1).alloc o2).alloc (.cells cs t)) (w.heap.size + 1 + 1) t cs := by
  have := Blk.new ((w.alloc o1).alloc o2) t cs
  simpa using this
/-- the load of a tree's links (named, so that the walk of the region that draws takes it as it comes) -/
def ldT : Op := .load 25 (.tmp 55)
attribute [local go_sem] ldT
theorem own_formS {w : World} {base n : Nat} {e : TypeId} {size : Nat} {v : Value} {xs : List Value} (h : w.ownsRow base e size v (n + 1) xs) : ∃ g c, v = .slice (some ⟨g, 0, none⟩) (n + 1) c ∧ base ≤ g := by
  rcases h.2 with ⟨_, h0⟩ | ⟨g, cap, _, rfl, hb, _⟩
  · omega
  · exact ⟨g, cap, rfl, hb⟩
theorem step_append_own2 {P : Program} (w : World) {ops : Array Oper} {o : Oper} {a : Act} {K : Act → World → Prop} {Q : Exit → Act → World → Prop} {E : Prop} (hgd : o.guard = none) (s x : Operand) (t : TypeId)
    (ho : o.op = .call { callee := .builtin .append, args := #[s, x], argTypes := #[t, t] })
    (base : Nat) (e : TypeId) (i : TypeInfo) (z : Value) (size bytes : Nat) (ht : P.underlying t = some (.slice e)) (hi : P.info? e = some i) (hz : i.zero = some z)
    (hsize : i.size = size) (hby : i.bytes = bytes) (hzs : z.cells.size = size) (hsz : 0 < size)
    (v : Value) (n : Nat) (xs : List Value) (hs : a.eval s = v) (hown : w.ownsRow base e size v n xs)
    (ad : Addr) (m c : Nat) (news : List Value) (hx : a.eval x = .slice (some ad) m c) (hl : news.length = m * size) (hnews : ∀ j u, news[j]? = some u → w.cell? (ad.add j) = some u) (h1 : ∀ u ∈ news, u.oneCell' = true)
    (h63 : n + m ≤ maxLen) (hbytes : (n + m) * bytes ≤ 140737488355328) (hbase : base ≤ w.heap.size)
    (h : ∀ v' w', w'.ownsRow base e size v' (n + m) (xs ++ news) → w.grownBy w' v.ownBlock → (v' = .slice none 0 0 ↔ v = .slice none 0 0 ∧ m = 0) → K (a.put o.dst v') w') :
    if Region.wanted o (yielded ops a.tmps) = true then Oper.wp P o a w K Q else E := by
  rw [if_pos (by simp [Region.wanted, hgd])]
  exact wp_append_own w s x t ho base e i z size bytes ht hi hz hsize hby hzs hsz v n xs hs hown ad m c news hx hl hnews h1 h63 hbytes hbase h
theorem make_end {w wc w6 : World} {A : Option Addr} {cap n g6 c6 : Nat} {lv nx nw a b y3 : Int} {y2 : ByteArray} {y4 : Bool} {l : List Nd} (hn : l.length = n)
    (hk0 : Blk wc w.heap.size 28 #[.slice A n cap, .int .i64 lv, .int .i64 nx, .int .u64 nw]) (hk2 : Blk wc (w.heap.size + 1 + 1) 28 #[.slice none 0 0, .int .i64 0, .int .i64 0, .int .u64 0]) (hb : Below w.heap.size w wc) (hb6 : Below wc.heap.size wc w6)
    (ho : w6.ownsRow wc.heap.size 42 6 (.slice (some ⟨g6, 0, none⟩) (n + 1) c6) (n + 1) (flatE encN l ++ (#[.int .i64 a, .int .i64 b, .string y2, .int .u64 y3, .bool y4, .bool false] : Array Value).toList)) :
    ∃ (g5 c5 : Nat), Hid (n + 1 ≤ c5) ∧ Hid (Blk ((w6.setCell ⟨w.heap.size, 0, none⟩ (.slice (some ⟨g6, 0, none⟩) (n + 1) c6)).setCell ⟨w.heap.size, 2, none⟩ (.int .i64 (a + 1))) w.heap.size 28 #[.slice (some ⟨g5, 0, none⟩) (n + 1) c5, .int .i64 lv, .int .i64 (a + 1), .int .u64 nw]) ∧ Hid (Blk ((w6.setCell ⟨w.heap.size, 0, none⟩ (.slice (some ⟨g6, 0, none⟩) (n + 1) c6)).setCell ⟨w.heap.size, 2, none⟩ (.int .i64 (a + 1))) (w.heap.size + 1 + 1) 28 #[.slice none 0 0, .int .i64 0, .int .i64 0, .int .u64 0]) ∧ Hid (NodesAt ((w6.setCell ⟨w.heap.size, 0, none⟩ (.slice (some ⟨g6, 0, none⟩) (n + 1) c6)).setCell ⟨w.heap.size, 2, none⟩ (.int .i64 (a + 1))) (some ⟨g5, 0, none⟩) (l ++ [⟨a, b, y2, y3, y4, false⟩])) ∧ Hid (Below w.heap.size w ((w6.setCell ⟨w.heap.size, 0, none⟩ (.slice (some ⟨g6, 0, none⟩) (n + 1) c6)).setCell ⟨w.heap.size, 2, none⟩ (.int .i64 (a + 1)))) := by
  have k0 := hk0.below hb6 hk0.lt
  have k2 := hk2.below hb6 hk2.lt
  have hl0 := hk0.lt
  have e : flatE encN l ++ (#[.int .i64 a, .int .i64 b, .string y2, .int .u64 y3, .bool y4, .bool false] : Array Value).toList = flatE encN (l ++ [⟨a, b, y2, y3, y4, false⟩]) := by
    rw [flatE_append]; rfl
  rw [e] at ho
  refine ⟨g6, c6, Lib.hid (own_le ho), Lib.hid ((k0.set_ 0 _).set_ 2 _), Lib.hid ((k2.far (by show w.heap.size + 1 + 1 ≠ w.heap.size; omega) _).far (by show w.heap.size + 1 + 1 ≠ w.heap.size; omega) _), Lib.hid ?_, Lib.hid ?_⟩
  · have h1 : NodesAt w6 (some ⟨g6, 0, none⟩) (l ++ [⟨a, b, y2, y3, y4, false⟩]) := nodes_of_own (n := n + 1) (cap := c6) (by rw [show (l ++ [(⟨a, b, y2, y3, y4, false⟩ : Nd)]).length = n + 1 by simp [hn]]; exact ho)
    exact (h1.setB k0 (by decide) 0 _).setB (k0.set_ 0 _) (by decide) 2 _
  · have h1 : Below w.heap.size w w6 := hb.trans (hb6.mono hb.size)
    exact (h1.setCell (p := ⟨w.heap.size, 0, none⟩) (Nat.le_refl _) _).setCell (p := ⟨w.heap.size, 2, none⟩) (Nat.le_refl _) _
set_option maxRecDepth 100000 in
set_option maxHeartbeats 4000000 in
theorem tmake_any (A : Option Addr) (cap : Nat) (l : List Nd) (lv nx nw : Int) (kd a b sn : Int) (tx : ByteArray) (w : World) (hl : l.length ≤ 1000000) (hr : NodesAt w A l) (htop : a ≤ 2147483647) (hbot : 0 ≤ a) :
    Calls Tryd.prog 41 #[.agg #[.slice A l.length cap, .int .i64 lv, .int .i64 nx, .int .u64 nw], .agg #[.int .i64 kd, .int .i64 a, .int .i64 b, .int .u64 sn, .string tx]] w fun e w' => ∃ v, e = .returned (.tuple #[v, .int .i64 (makeN ⟨l, lv, nx, nw⟩ ⟨kd, a, b, sn, tx⟩).2]) ∧ TrAt w' v (makeN ⟨l, lv, nx, nw⟩ ⟨kd, a, b, sn, tx⟩).1 ∧ Below w.heap.size w w' := by
  have hbel : Below w.heap.size w (((w.alloc (.cells #[.slice A l.length cap, .int .i64 lv, .int .i64 nx, .int .u64 nw] 28)).alloc (.cells #[.int .i64 kd, .int .i64 a, .int .i64 b, .int .u64 sn, .string tx] 62)).alloc (.cells #[.slice none 0 0, .int .i64 0, .int .i64 0, .int .u64 0] 28)) := (((Below.refl _ _).alloc (Nat.le_refl _) _).alloc (by simp) _).alloc (by simp; omega) _
  have hk0 : Blk (((w.alloc (.cells #[.slice A l.length cap, .int .i64 lv, .int .i64 nx, .int .u64 nw] 28)).alloc (.cells #[.int .i64 kd, .int .i64 a, .int .i64 b, .int .u64 sn, .string tx] 62)).alloc (.cells #[.slice none 0 0, .int .i64 0, .int .i64 0, .int .u64 0] 28)) w.heap.size 28 #[.slice A l.length cap, .int .i64 lv, .int .i64 nx, .int .u64 nw] := ((Blk.new w 28 #[.slice A l.length cap, .int .i64 lv, .int .i64 nx, .int .u64 nw]).alloc _).alloc _
  have hk1 : Blk (((w.alloc (.cells #[.slice A l.length cap, .int .i64 lv, .int .i64 nx, .int .u64 nw] 28)).alloc (.cells #[.int .i64 kd, .int .i64 a, .int .i64 b, .int .u64 sn, .string tx] 62)).alloc (.cells #[.slice none 0 0, .int .i64 0, .int .i64 0, .int .u64 0] 28)) (w.heap.size + 1) 62 #[.int .i64 kd, .int .i64 a, .int .i64 b, .int .u64 sn, .string tx] := (blk_new1 w _ _ _).alloc _
  have hk2 : Blk (((w.alloc (.cells #[.slice A l.length cap, .int .i64 lv, .int .i64 nx, .int .u64 nw] 28)).alloc (.cells #[.int .i64 kd, .int .i64 a, .int .i64 b, .int .u64 sn, .string tx] 62)).alloc (.cells #[.slice none 0 0, .int .i64 0, .int .i64 0, .int .u64 0] 28)) (w.heap.size + 1 + 1) 28 #[.slice none 0 0, .int .i64 0, .int .i64 0, .int .u64 0] := blk_new2 w _ _ _ _
  have hr0 := hr.below hbel
  have hfind := fun (b : Int) (w1 : World) (hx : NodesAt w1 A l) => find_any A cap l lv nx nw b w1 hl hx
  have hclone := fun (w1 : World) (h1 : NodesAt w1 A l) => tclone_any A cap l w1 h1 hl
  have hem := size_empty tx
  obtain ⟨eb, heb⟩ : ∃ eb, decide (tx.size = 0) = eb := ⟨_, rfl⟩
  rw [heb] at hem
  have HEB := Lib.hid heb
  clear heb
  have hmk : makeN ⟨l, lv, nx, nw⟩ ⟨kd, a, b, sn, tx⟩ = if 60 ≤ l.length then (zT, 6) else if a < nx ∨ a = 2147483647 ∨ (findN l b).2 = false then (zT, 1) else (⟨l ++ [if 0 < tx.size then ⟨a, b, tx, sn, false, false⟩ else ⟨a, b, ⟨#[]⟩, 0, true, false⟩], lv, a + 1, nw⟩, 0) := rfl
  obtain ⟨R, hR⟩ : ∃ R, makeN ⟨l, lv, nx, nw⟩ ⟨kd, a, b, sn, tx⟩ = R := ⟨_, rfl⟩
  rw [hR] at hmk ⊢
  obtain ⟨⟨x, ob⟩, hfa⟩ : ∃ q, findN l b = q := ⟨_, rfl⟩
  have HF := Lib.hid hfind
  have HCL := Lib.hid hclone
  have HMK := Lib.hid hmk
  have HFA := Lib.hid hfa
  obtain ⟨n, hn⟩ : ∃ n, l.length = n := ⟨_, rfl⟩
  have HN := Lib.hid hn
  rw [hfa] at HMK
  rw [hn] at hl hbel hk0 hk1 hk2 hr0 HF HCL HMK ⊢
  clear hr hfind hclone hmk hR hfa hn
  go_enter Tryd.func41, Tryd.ntmps41
  go_upto_region 1 with fail
  generalize (((w.alloc (.cells #[.slice A n cap, .int .i64 lv, .int .i64 nx, .int .u64 nw] 28)).alloc (.cells #[.int .i64 kd, .int .i64 a, .int .i64 b, .int .u64 sn, .string tx] 62)).alloc (.cells #[.slice none 0 0, .int .i64 0, .int .i64 0, .int .u64 0] 28)) = w0 at hbel hk0 hk1 hk2 hr0 ⊢
  have k0 := hk0
  have k1 := hk1
  have t0 : w0.cell? ⟨w.heap.size, 0, none⟩ = some (.slice A n cap) := (k0.cell 0).trans rfl
  have t1 : w0.cell? ⟨w.heap.size, 1, none⟩ = some (.int .i64 lv) := (k0.cell 1).trans rfl
  have t2 : w0.cell? ⟨w.heap.size, 2, none⟩ = some (.int .i64 nx) := (k0.cell 2).trans rfl
  have t3 : w0.cell? ⟨w.heap.size, 3, none⟩ = some (.int .u64 nw) := (k0.cell 3).trans rfl
  have s0 : w0.cell? ⟨w.heap.size + 1, 0, none⟩ = some (.int .i64 kd) := (k1.cell 0).trans rfl
  have s1 : w0.cell? ⟨w.heap.size + 1, 1, none⟩ = some (.int .i64 a) := (k1.cell 1).trans rfl
  have s2 : w0.cell? ⟨w.heap.size + 1, 2, none⟩ = some (.int .i64 b) := (k1.cell 2).trans rfl
  have s3 : w0.cell? ⟨w.heap.size + 1, 3, none⟩ = some (.int .u64 sn) := (k1.cell 3).trans rfl
  have s4 : w0.cell? ⟨w.heap.size + 1, 4, none⟩ = some (.string tx) := (k1.cell 4).trans rfl
  have HB := Lib.hid hbel
  have HK0 := Lib.hid hk0
  have HK1 := Lib.hid hk1
  have HK2 := Lib.hid hk2
  have HR := Lib.hid hr0
  have h2lt := hk2.lt
  clear hbel hk0 hk1 hk2 hr0 k0 k1
  have hf1 := HF.out b w0 HR.out
  rw [HFA.out] at hf1
  obtain ⟨x0, x1, x2, x3, x4, x5⟩ := x
  unfold valN at hf1
  dsimp only at hf1
  have HF1 := Lib.hid hf1
  clear hf1
  go_wp2_with fail
  refine HF1.out.mono ?_
  rintro e w1 ⟨rfl, hb1⟩
  have hbx := hb1.alloc hb1.size (.cells #[.int .i64 x0, .int .i64 x1, .string x2, .int .u64 x3, .bool x4, .bool x5] 42)
  clear t0 t1 t2 t3 s0 s1 s2 s3 s4 HF1 hb1
  go_upto_region 2 with fail
  generalize (w1.alloc (.cells #[.int .i64 x0, .int .i64 x1, .string x2, .int .u64 x3, .bool x4, .bool x5] 42)) = w2 at hbx ⊢
  have k0 := HK0.out.below hbx HK0.out.lt
  have k1 := HK1.out.below hbx HK1.out.lt
  have k2 := HK2.out.below hbx HK2.out.lt
  have t0 : w2.cell? ⟨w.heap.size, 0, none⟩ = some (.slice A n cap) := (k0.cell 0).trans rfl
  have t1 : w2.cell? ⟨w.heap.size, 1, none⟩ = some (.int .i64 lv) := (k0.cell 1).trans rfl
  have t2 : w2.cell? ⟨w.heap.size, 2, none⟩ = some (.int .i64 nx) := (k0.cell 2).trans rfl
  have t3 : w2.cell? ⟨w.heap.size, 3, none⟩ = some (.int .u64 nw) := (k0.cell 3).trans rfl
  have s0 : w2.cell? ⟨w.heap.size + 1, 0, none⟩ = some (.int .i64 kd) := (k1.cell 0).trans rfl
  have s1 : w2.cell? ⟨w.heap.size + 1, 1, none⟩ = some (.int .i64 a) := (k1.cell 1).trans rfl
  have s2 : w2.cell? ⟨w.heap.size + 1, 2, none⟩ = some (.int .i64 b) := (k1.cell 2).trans rfl
  have s3 : w2.cell? ⟨w.heap.size + 1, 3, none⟩ = some (.int .u64 sn) := (k1.cell 3).trans rfl
  have s4 : w2.cell? ⟨w.heap.size + 1, 4, none⟩ = some (.string tx) := (k1.cell 4).trans rfl
  have c0 : w2.cell? ⟨w.heap.size + 1 + 1, 0, none⟩ = some (.slice none 0 0) := (k2.cell 0).trans rfl
  have c1 : w2.cell? ⟨w.heap.size + 1 + 1, 1, none⟩ = some (.int .i64 0) := (k2.cell 1).trans rfl
  have c2 : w2.cell? ⟨w.heap.size + 1 + 1, 2, none⟩ = some (.int .i64 0) := (k2.cell 2).trans rfl
  have c3 : w2.cell? ⟨w.heap.size + 1 + 1, 3, none⟩ = some (.int .u64 0) := (k2.cell 3).trans rfl
  have f0 := k2.frozen 0
  have f1 := k2.frozen 1
  have f2 := k2.frozen 2
  have f3 := k2.frozen 3
  have g0 := k0.frozen 0
  have g2 := k0.frozen 2
  have hr2 := HR.out.below hbx
  have hb2 := HB.out.trans (hbx.mono HB.out.size)
  have h2lt2 := k2.lt
  clear HK0 HK1 HK2 HR HB HF HFA h2lt
  have HK0 := Lib.hid k0
  have HK1 := Lib.hid k1
  have HK2 := Lib.hid k2
  have HR := Lib.hid hr2
  have HB := Lib.hid hb2
  clear k0 k1 k2 hr2 hb2 hbx
  by_cases h60 : 60 ≤ n
  · have hR := HMK.out
    rw [if_pos h60] at hR
    subst hR
    go_wp2_with fail
    have h3 := (((HK2.out.set_ 0 (.slice none 0 0)).set_ 1 (.int .i64 0)).set_ 2 (.int .i64 0)).set_ 3 (.int .u64 0)
    refine bodyPost_ret (results_row_tmp rfl _ _ (w.heap.size + 1 + 1) _ _ _ _ rfl h3 Tryd.underlying28 rfl (by rw [tr_info]; rfl)) rfl ?_
    refine tr_goal (R := (zT, _)) rfl (TrAt.zero _) ?_
    repeat (refine below_set ?_ (by omega))
    exact HB.out
  · have hR := HMK.out
    rw [if_neg h60] at hR
    clear HMK
    by_cases h1 : a < nx
    · rw [if_pos (.inl h1)] at hR
      subst hR
      go_wp2_with fail
      have h3 := (((HK2.out.set_ 0 (.slice none 0 0)).set_ 1 (.int .i64 0)).set_ 2 (.int .i64 0)).set_ 3 (.int .u64 0)
      refine bodyPost_ret (results_row_tmp rfl _ _ (w.heap.size + 1 + 1) _ _ _ _ rfl h3 Tryd.underlying28 rfl (by rw [tr_info]; rfl)) rfl ?_
      refine tr_goal (R := (zT, _)) rfl (TrAt.zero _) ?_
      repeat (refine below_set ?_ (by omega))
      exact HB.out
    · by_cases h2 : a = 2147483647
      · rw [if_pos (.inr (.inl h2))] at hR
        subst hR
        go_wp2_with fail
        have h3 := (((HK2.out.set_ 0 (.slice none 0 0)).set_ 1 (.int .i64 0)).set_ 2 (.int .i64 0)).set_ 3 (.int .u64 0)
        refine bodyPost_ret (results_row_tmp rfl _ _ (w.heap.size + 1 + 1) _ _ _ _ rfl h3 Tryd.underlying28 rfl (by rw [tr_info]; rfl)) rfl ?_
        refine tr_goal (R := (zT, _)) rfl (TrAt.zero _) ?_
        repeat (refine below_set ?_ (by omega))
        exact HB.out
      · cases ob with
        | false =>
          rw [if_pos (.inr (.inr rfl))] at hR
          subst hR
          go_wp2_with fail
          have h3 := (((HK2.out.set_ 0 (.slice none 0 0)).set_ 1 (.int .i64 0)).set_ 2 (.int .i64 0)).set_ 3 (.int .u64 0)
          refine bodyPost_ret (results_row_tmp rfl _ _ (w.heap.size + 1 + 1) _ _ _ _ rfl h3 Tryd.underlying28 rfl (by rw [tr_info]; rfl)) rfl ?_
          refine tr_goal (R := (zT, _)) rfl (TrAt.zero _) ?_
          repeat (refine below_set ?_ (by omega))
          exact HB.out
        | true =>
          rw [if_neg (by simp; omega)] at hR
          have HRR := Lib.hid hR
          clear hR
          go_upto_region 7 with fail
          have hx3 := Blk.new w2 42 #[.int .i64 a, .int .i64 b, .string ⟨#[]⟩, .int .u64 0, .bool true, .bool false]
          have hbn := (Below.refl w2.heap.size w2).alloc (Nat.le_refl _) (.cells #[.int .i64 a, .int .i64 b, .string ⟨#[]⟩, .int .u64 0, .bool true, .bool false] 42)
          obtain ⟨g, hg⟩ : ∃ g, g = w2.heap.size := ⟨_, rfl⟩
          have hgl : w.heap.size + 1 + 1 < g := by rw [hg]; exact h2lt2
          clear t0 t1 t2 t3 s0 s1 s2 s3 s4 c0 c1 c2 c3 f0 f1 f2 f3 g0 g2
          have k0 := HK0.out.below hbn HK0.out.lt
          have k1 := HK1.out.below hbn HK1.out.lt
          have k2 := HK2.out.below hbn HK2.out.lt
          have hr3 := HR.out.below hbn
          have hb3 := HB.out.trans (hbn.mono HB.out.size)
          rw [← hg] at hx3 ⊢
          generalize (w2.alloc (.cells #[.int .i64 a, .int .i64 b, .string ⟨#[]⟩, .int .u64 0, .bool true, .bool false] 42)) = w3 at hx3 hbn k0 k1 k2 hr3 hb3 ⊢
          have HK03 := Lib.hid k0
          have HK13 := Lib.hid k1
          have HK23 := Lib.hid k2
          have HR3 := Lib.hid hr3
          have HB3 := Lib.hid hb3
          have HX3 := Lib.hid hx3
          have s4 : w3.cell? ⟨w.heap.size + 1, 4, none⟩ = some (.string tx) := (k1.cell 4).trans rfl
          have s0 : w3.cell? ⟨w.heap.size + 1, 0, none⟩ = some (.int .i64 kd) := (k1.cell 0).trans rfl
          have s1 : w3.cell? ⟨w.heap.size + 1, 1, none⟩ = some (.int .i64 a) := (k1.cell 1).trans rfl
          have s2 : w3.cell? ⟨w.heap.size + 1, 2, none⟩ = some (.int .i64 b) := (k1.cell 2).trans rfl
          have s3 : w3.cell? ⟨w.heap.size + 1, 3, none⟩ = some (.int .u64 sn) := (k1.cell 3).trans rfl
          have f0 := hx3.frozen 0
          have f1 := hx3.frozen 1
          have f2 := hx3.frozen 2
          have f3 := hx3.frozen 3
          have f4 := hx3.frozen 4
          have f5 := hx3.frozen 5
          have e0 : w3.cell? ⟨g, 0, none⟩ = some (.int .i64 a) := (hx3.cell 0).trans rfl
          have e1 : w3.cell? ⟨g, 1, none⟩ = some (.int .i64 b) := (hx3.cell 1).trans rfl
          have e2 : w3.cell? ⟨g, 2, none⟩ = some (.string ⟨#[]⟩) := (hx3.cell 2).trans rfl
          have e3 : w3.cell? ⟨g, 3, none⟩ = some (.int .u64 0) := (hx3.cell 3).trans rfl
          have e4 : w3.cell? ⟨g, 4, none⟩ = some (.bool true) := (hx3.cell 4).trans rfl
          have e5 : w3.cell? ⟨g, 5, none⟩ = some (.bool false) := (hx3.cell 5).trans rfl
          have HBN := Lib.hid hbn
          have HG := Lib.hid hg
          clear k0 k1 k2 hr3 hb3 hx3 hg HK0 HK1 HK2 HB hbn
          go_upto_if 45 with fail
          go_cut [] from 9 (fun wx => ∃ (y2 : ByteArray) (y3 : Int) (y4 : Bool), Hid (R = (⟨l ++ [⟨a, b, y2, y3, y4, false⟩], lv, a + 1, nw⟩, 0)) ∧ Hid (Blk wx g 42 #[.int .i64 a, .int .i64 b, .string y2, .int .u64 y3, .bool y4, .bool false]) ∧ Hid (Blk wx w.heap.size 28 #[.slice A n cap, .int .i64 lv, .int .i64 nx, .int .u64 nw]) ∧ Hid (Blk wx (w.heap.size + 1) 62 #[.int .i64 kd, .int .i64 a, .int .i64 b, .int .u64 sn, .string tx]) ∧ Hid (Blk wx (w.heap.size + 1 + 1) 28 #[.slice none 0 0, .int .i64 0, .int .i64 0, .int .u64 0]) ∧ Hid (NodesAt wx A l) ∧ Hid (Below w.heap.size w wx))
          case first =>
            cases eb with
            | true =>
              have h0 : tx.size = 0 := of_decide_eq_true HEB.out
              rw [if_neg (by omega)] at HRR
              clear h0
              go_wp2_with fail
              go_meet
              exact ⟨_, _, _, HRR, HX3, HK03, HK13, HK23, HR3, HB3⟩
            | false =>
              have h0 : ¬ tx.size = 0 := of_decide_eq_false HEB.out
              rw [if_pos (by omega)] at HRR
              clear h0
              go_wp2_with fail
              go_meet
              have hne0 : w.heap.size ≠ g := by omega
              have hne1 : w.heap.size + 1 ≠ g := by omega
              have hne2 : w.heap.size + 1 + 1 ≠ g := by omega
              refine ⟨tx, sn, false, HRR, Lib.hid ((((((HX3.out.set_ 0 (.int .i64 a)).set_ 1 (.int .i64 b)).set_ 2 (.string tx)).set_ 3 (.int .u64 sn)).set_ 4 (.bool false)).set_ 5 (.bool false)), Lib.hid ((((((HK03.out.far (p := ⟨g, 0, none⟩) hne0 (.int .i64 a)).far (p := ⟨g, 1, none⟩) hne0 (.int .i64 b)).far (p := ⟨g, 2, none⟩) hne0 (.string tx)).far (p := ⟨g, 3, none⟩) hne0 (.int .u64 sn)).far (p := ⟨g, 4, none⟩) hne0 (.bool false)).far (p := ⟨g, 5, none⟩) hne0 (.bool false)), Lib.hid ((((((HK13.out.far (p := ⟨g, 0, none⟩) hne1 (.int .i64 a)).far (p := ⟨g, 1, none⟩) hne1 (.int .i64 b)).far (p := ⟨g, 2, none⟩) hne1 (.string tx)).far (p := ⟨g, 3, none⟩) hne1 (.int .u64 sn)).far (p := ⟨g, 4, none⟩) hne1 (.bool false)).far (p := ⟨g, 5, none⟩) hne1 (.bool false)), Lib.hid ((((((HK23.out.far (p := ⟨g, 0, none⟩) hne2 (.int .i64 a)).far (p := ⟨g, 1, none⟩) hne2 (.int .i64 b)).far (p := ⟨g, 2, none⟩) hne2 (.string tx)).far (p := ⟨g, 3, none⟩) hne2 (.int .u64 sn)).far (p := ⟨g, 4, none⟩) hne2 (.bool false)).far (p := ⟨g, 5, none⟩) hne2 (.bool false)), Lib.hid ?_, Lib.hid ?_⟩
              · have hge : w2.heap.size ≤ g := by rw [HG.out]; exact Nat.le_refl _
                exact HR.out.below ((((((HBN.out.setCell (p := ⟨g, 0, none⟩) hge (.int .i64 a)).setCell (p := ⟨g, 1, none⟩) hge (.int .i64 b)).setCell (p := ⟨g, 2, none⟩) hge (.string tx)).setCell (p := ⟨g, 3, none⟩) hge (.int .u64 sn)).setCell (p := ⟨g, 4, none⟩) hge (.bool false)).setCell (p := ⟨g, 5, none⟩) hge (.bool false))
              · have hge : w.heap.size ≤ g := by omega
                exact ((((((HB3.out.setCell (p := ⟨g, 0, none⟩) hge (.int .i64 a)).setCell (p := ⟨g, 1, none⟩) hge (.int .i64 b)).setCell (p := ⟨g, 2, none⟩) hge (.string tx)).setCell (p := ⟨g, 3, none⟩) hge (.int .u64 sn)).setCell (p := ⟨g, 4, none⟩) hge (.bool false)).setCell (p := ⟨g, 5, none⟩) hge (.bool false))
          case rest =>
            obtain ⟨y2, y3, y4, HRX, HX4, HK04, HK14, HK24, HR4, HB4⟩ := hcut
            have k0 := HK04.out
            have k1 := HK14.out
            have kx := HX4.out
            have t0 : wc.cell? ⟨w.heap.size, 0, none⟩ = some (.slice A n cap) := (k0.cell 0).trans rfl
            have t2 : wc.cell? ⟨w.heap.size, 2, none⟩ = some (.int .i64 nx) := (k0.cell 2).trans rfl
            have s1 : wc.cell? ⟨w.heap.size + 1, 1, none⟩ = some (.int .i64 a) := (k1.cell 1).trans rfl
            have e0 : wc.cell? ⟨g, 0, none⟩ = some (.int .i64 a) := (kx.cell 0).trans rfl
            have e1 : wc.cell? ⟨g, 1, none⟩ = some (.int .i64 b) := (kx.cell 1).trans rfl
            have e2 : wc.cell? ⟨g, 2, none⟩ = some (.string y2) := (kx.cell 2).trans rfl
            have e3 : wc.cell? ⟨g, 3, none⟩ = some (.int .u64 y3) := (kx.cell 3).trans rfl
            have e4 : wc.cell? ⟨g, 4, none⟩ = some (.bool y4) := (kx.cell 4).trans rfl
            have e5 : wc.cell? ⟨g, 5, none⟩ = some (.bool false) := (kx.cell 5).trans rfl
            have g0 := k0.frozen 0
            have g2 := k0.frozen 2
            have hgl : g < wc.heap.size := kx.lt
            have hwl : w.heap.size + 1 + 1 < wc.heap.size := HK24.out.lt
            have hwr : IntKind.i64.wrap (a + 1) = a + 1 := by rw [IntKind.wrap_i64] <;> omega
            clear k0 k1 kx s0 s2 s3 s4 f0 f1 f2 f3 f4 f5 HX3 HK03 HK13 HK23 HR3 HB3
            go_upto_region 9 with fail
            go_cut [] from 9 (fun wx => ∃ (g5 c5 : Nat), Hid (n + 1 ≤ c5) ∧ Hid (Blk wx w.heap.size 28 #[.slice (some ⟨g5, 0, none⟩) (n + 1) c5, .int .i64 lv, .int .i64 (a + 1), .int .u64 nw]) ∧ Hid (Blk wx (w.heap.size + 1 + 1) 28 #[.slice none 0 0, .int .i64 0, .int .i64 0, .int .u64 0]) ∧ Hid (NodesAt wx (some ⟨g5, 0, none⟩) (l ++ [⟨a, b, y2, y3, y4, false⟩])) ∧ Hid (Below w.heap.size w wx))
            case first =>
              have hkeep : ∀ w', Below wc.heap.size wc w' → w'.cell? ⟨w.heap.size + 1, 1, none⟩ = some (.int .i64 a) ∧ w'.cell? ⟨g, 0, none⟩ = some (.int .i64 a) ∧ w'.cell? ⟨g, 1, none⟩ = some (.int .i64 b) ∧ w'.cell? ⟨g, 2, none⟩ = some (.string y2) ∧ w'.cell? ⟨g, 3, none⟩ = some (.int .u64 y3) ∧ w'.cell? ⟨g, 4, none⟩ = some (.bool y4) ∧ w'.cell? ⟨g, 5, none⟩ = some (.bool false) := by
                intro w' hb
                have q0 : w.heap.size < wc.heap.size := by omega
                have q1 : w.heap.size + 1 < wc.heap.size := by omega
                exact ⟨(hb.cell (p := ⟨w.heap.size + 1, 1, none⟩) q1).trans s1, (hb.cell (p := ⟨g, 0, none⟩) hgl).trans e0, (hb.cell (p := ⟨g, 1, none⟩) hgl).trans e1, (hb.cell (p := ⟨g, 2, none⟩) hgl).trans e2, (hb.cell (p := ⟨g, 3, none⟩) hgl).trans e3, (hb.cell (p := ⟨g, 4, none⟩) hgl).trans e4, (hb.cell (p := ⟨g, 5, none⟩) hgl).trans e5⟩
              have ht : ∀ w', Below wc.heap.size wc w' → w'.cell? ⟨w.heap.size, 0, none⟩ = some (.slice A n cap) ∧ w'.cell? ⟨w.heap.size, 2, none⟩ = some (.int .i64 nx) ∧ w'.frozen? ⟨w.heap.size, 0, none⟩ = false ∧ w'.frozen? ⟨w.heap.size, 2, none⟩ = false := by
                intro w' hb
                have q0 : w.heap.size < wc.heap.size := by omega
                exact ⟨(hb.cell (p := ⟨w.heap.size, 0, none⟩) q0).trans t0, (hb.cell (p := ⟨w.heap.size, 2, none⟩) q0).trans t2, (hb.frozen (p := ⟨w.heap.size, 0, none⟩) q0).trans g0, (hb.frozen (p := ⟨w.heap.size, 2, none⟩) q0).trans g2⟩
              have hks : ∀ (w' : World) (j : Nat) (v : Value), (w'.cell? ⟨w.heap.size + 1, 1, none⟩ = some (.int .i64 a) ∧ w'.cell? ⟨g, 0, none⟩ = some (.int .i64 a) ∧ w'.cell? ⟨g, 1, none⟩ = some (.int .i64 b) ∧ w'.cell? ⟨g, 2, none⟩ = some (.string y2) ∧ w'.cell? ⟨g, 3, none⟩ = some (.int .u64 y3) ∧ w'.cell? ⟨g, 4, none⟩ = some (.bool y4) ∧ w'.cell? ⟨g, 5, none⟩ = some (.bool false)) → (w'.setCell ⟨w.heap.size, j, none⟩ v).cell? ⟨w.heap.size + 1, 1, none⟩ = some (.int .i64 a) ∧ (w'.setCell ⟨w.heap.size, j, none⟩ v).cell? ⟨g, 0, none⟩ = some (.int .i64 a) ∧ (w'.setCell ⟨w.heap.size, j, none⟩ v).cell? ⟨g, 1, none⟩ = some (.int .i64 b) ∧ (w'.setCell ⟨w.heap.size, j, none⟩ v).cell? ⟨g, 2, none⟩ = some (.string y2) ∧ (w'.setCell ⟨w.heap.size, j, none⟩ v).cell? ⟨g, 3, none⟩ = some (.int .u64 y3) ∧ (w'.setCell ⟨w.heap.size, j, none⟩ v).cell? ⟨g, 4, none⟩ = some (.bool y4) ∧ (w'.setCell ⟨w.heap.size, j, none⟩ v).cell? ⟨g, 5, none⟩ = some (.bool false) := by
                intro w' j v hs
                have q0 : g ≠ w.heap.size := by omega
                have q1 : w.heap.size + 1 ≠ w.heap.size := by omega
                have c : ∀ (k i : Nat), k ≠ w.heap.size → (w'.setCell ⟨w.heap.size, j, none⟩ v).cell? ⟨k, i, none⟩ = w'.cell? ⟨k, i, none⟩ := fun k i hk => by
                  have := Below.heap_setCell w' ⟨w.heap.size, j, none⟩ v k hk
                  simp only [World.cell?, this]
                exact ⟨(c _ _ q1).trans hs.1, (c _ _ q0).trans hs.2.1, (c _ _ q0).trans hs.2.2.1, (c _ _ q0).trans hs.2.2.2.1, (c _ _ q0).trans hs.2.2.2.2.1, (c _ _ q0).trans hs.2.2.2.2.2.1, (c _ _ q0).trans hs.2.2.2.2.2.2⟩
              obtain ⟨ta0, _, _, _⟩ := ht (wc.drew.alloc (.cells #[.int .i64 a, .int .i64 b, .string y2, .int .u64 y3, .bool y4, .bool false] 42)) (below_alloc (below_drew1 (Below.refl _ _)) _)
              obtain ⟨tb0, _, _, _⟩ := ht (wc.alloc (.cells #[.int .i64 a, .int .i64 b, .string y2, .int .u64 y3, .bool y4, .bool false] 42)) (below_alloc (Below.refl _ _) _)
              have HT := Lib.hid ht
              have HKS := Lib.hid hks
              clear ht hks
              have HKP := Lib.hid hkeep
              clear hkeep
              obtain ⟨i0, hi0, hzz⟩ := Option.map_eq_some_iff.1 (show (Tryd.prog.info? 42).map (fun i => (i.zero, i.size, i.bytes)) = some (some (.agg #[.int .i64 0, .int .i64 0, .string ⟨#[]⟩, .int .u64 0, .bool false, .bool false]), 6, 48) by kernel_rfl)
              simp only [Prod.mk.injEq] at hzz
              obtain ⟨hz0, hz1, hz2⟩ := hzz
              have HI0 := Lib.hid hi0
              have HZ0 := Lib.hid hz0
              have HZ1 := Lib.hid hz1
              have HZ2 := Lib.hid hz2
              have hone : ∀ u ∈ (#[.int .i64 a, .int .i64 b, .string y2, .int .u64 y3, .bool y4, .bool false] : Array Value).toList, u.oneCell' = true := by
                intro u hu
                simp only [List.mem_cons, List.not_mem_nil, or_false] at hu
                rcases hu with rfl | rfl | rfl | rfl | rfl | rfl <;> rfl
              have HON := Lib.hid hone
              clear hi0 hz0 hz1 hz2 hone
              rw [show Op.load 25 (Operand.tmp 55) = ldT from rfl]
              go_region_held3 (fun w' => w'.cell? ⟨w.heap.size + 1, 1, none⟩ = some (.int .i64 a) ∧ w'.cell? ⟨g, 0, none⟩ = some (.int .i64 a) ∧ w'.cell? ⟨g, 1, none⟩ = some (.int .i64 b) ∧ w'.cell? ⟨g, 2, none⟩ = some (.string y2) ∧ w'.cell? ⟨g, 3, none⟩ = some (.int .u64 y3) ∧ w'.cell? ⟨g, 4, none⟩ = some (.bool y4) ∧ w'.cell? ⟨g, 5, none⟩ = some (.bool false))
                (first | exact HKS.out _ _ _ (HKS.out _ _ _ (HKP.out _ hbl6)) | exact HKS.out _ _ _ (HKP.out _ hbl6) | exact HKP.out _ hbl6 | exact HKP.out _ (below_alloc hbl5 _) | exact HKP.out _ hbl5 | exact HKP.out _ (below_alloc (below_drew1 (Below.refl _ _)) _) | exact HKP.out _ (below_drew1 (Below.refl _ _)) | fail)
                (first
                  | (go_at_call 66; refine (HCL.out _ ?_).mono ?_; (exact HR4.out.below (by first | (with_reducible exact Below.refl _ _) | exact below_drew1 (Below.refl _ _) | exact below_alloc (below_drew1 (Below.refl _ _)) _)); (rintro e w5 ⟨⟨v5, rfl, ho5⟩, hb5⟩; have hbl5 : Below wc.heap.size wc w5 := (by first | exact (below_drew1 (Below.refl _ _)).trans hb5 | exact (below_alloc (below_drew1 (Below.refl _ _)) _).trans (hb5.mono (by simp))); have HO5 := Lib.hid (own_weaken ho5 (base' := wc.heap.size) (by simp)); (first | (have HNB := Lib.hid (show w5.heap[wc.heap.size]? = some (.cells #[.int .i64 a, .int .i64 b, .string y2, .int .u64 y3, .bool y4, .bool false] 42) from (hb5.block wc.heap.size (by simp)).trans (heap_alloc_new wc.drew _))) | skip); clear ho5 hb5))
                  | (refine step_append_own2 _ rfl _ _ 25 (by rfl) wc.heap.size 42 i0 _ 6 48 Tryd.underlying25 HI0.out HZ0.out HZ1.out HZ2.out (by rfl) (by decide) v5 n (flatE encN l) (by rfl) (HO5.out.alloc _) ⟨w5.heap.size, 0, none⟩ 1 1 (#[.int .i64 a, .int .i64 b, .string y2, .int .u64 y3, .bool y4, .bool false] : Array Value).toList (by rfl) (by rfl) (World.news_of_block (heap_alloc_new w5 _)) HON.out (by unfold maxLen; omega) (by omega) (by have := hbl5.size; simp; omega) ?_; (intro v6 w6 hown6 hg6 hv6; have hbl6 : Below wc.heap.size wc w6 := pw_below_grown (below_alloc hbl5 _) _ (by have := hbl5.size; simp; omega) hg6 (fun k hk => (HO5.out.lt k hk).1); obtain ⟨g6, c6, e6, hb6⟩ := own_formS hown6; subst e6; have HO6 := Lib.hid hown6; obtain ⟨q0, q2, q3, q4⟩ := HT.out _ hbl6; clear hg6 hown6 hv6))
                  | (refine step_append_own2 _ rfl _ _ 25 (by rfl) wc.heap.size 42 i0 _ 6 48 Tryd.underlying25 HI0.out HZ0.out HZ1.out HZ2.out (by rfl) (by decide) v5 n (flatE encN l) (by rfl) HO5.out ⟨wc.heap.size, 0, none⟩ 1 1 (#[.int .i64 a, .int .i64 b, .string y2, .int .u64 y3, .bool y4, .bool false] : Array Value).toList (by rfl) (by rfl) (World.news_of_block HNB.out) HON.out (by unfold maxLen; omega) (by omega) hbl5.size ?_; (intro v6 w6 hown6 hg6 hv6; have hbl6 : Below wc.heap.size wc w6 := pw_below_grown hbl5 _ hbl5.size hg6 (fun k hk => (HO5.out.lt k hk).1); obtain ⟨g6, c6, e6, hb6⟩ := own_formS hown6; subst e6; have HO6 := Lib.hid hown6; obtain ⟨q0, q2, q3, q4⟩ := HT.out _ hbl6; clear hg6 hown6 hv6))
                  | fail)
              all_goals (go_wp2_with fail; go_meet)
              all_goals exact make_end HN.out HK04.out HK24.out HB4.out hbl6 HO6.out
            case rest =>
              clear t0 t2 s1 e0 e1 e2 e3 e4 e5 g0 g2
              obtain ⟨g5, c5, HC5, HK05, HK25, HN5, HB5⟩ := hcut
              have k0 := HK05.out
              have k2 := HK25.out
              have t0 : wc.cell? ⟨w.heap.size, 0, none⟩ = some (.slice (some ⟨g5, 0, none⟩) (n + 1) c5) := (k0.cell 0).trans rfl
              have t1 : wc.cell? ⟨w.heap.size, 1, none⟩ = some (.int .i64 lv) := (k0.cell 1).trans rfl
              have t2 : wc.cell? ⟨w.heap.size, 2, none⟩ = some (.int .i64 (a + 1)) := (k0.cell 2).trans rfl
              have t3 : wc.cell? ⟨w.heap.size, 3, none⟩ = some (.int .u64 nw) := (k0.cell 3).trans rfl
              have c0 : wc.cell? ⟨w.heap.size + 1 + 1, 0, none⟩ = some (.slice none 0 0) := (k2.cell 0).trans rfl
              have c1 : wc.cell? ⟨w.heap.size + 1 + 1, 1, none⟩ = some (.int .i64 0) := (k2.cell 1).trans rfl
              have c2 : wc.cell? ⟨w.heap.size + 1 + 1, 2, none⟩ = some (.int .i64 0) := (k2.cell 2).trans rfl
              have c3 : wc.cell? ⟨w.heap.size + 1 + 1, 3, none⟩ = some (.int .u64 0) := (k2.cell 3).trans rfl
              have f0 := k2.frozen 0
              have f1 := k2.frozen 1
              have f2 := k2.frozen 2
              have f3 := k2.frozen 3
              clear k0 k2
              go_wp2_with fail
              have h3 := (((HK25.out.set_ 0 (.slice (some ⟨g5, 0, none⟩) (n + 1) c5)).set_ 1 (.int .i64 lv)).set_ 2 (.int .i64 (a + 1))).set_ 3 (.int .u64 nw)
              refine bodyPost_ret (results_row_tmp rfl _ _ (w.heap.size + 1 + 1) _ _ _ _ rfl h3 Tryd.underlying28 rfl (by rw [tr_info]; rfl)) rfl ?_
              refine tr_goal (congrArg Prod.snd HRX.out).symm ?_ ?_
              · rw [HRX.out]
                refine ⟨some ⟨g5, 0, none⟩, c5, ?_, ?_, ?_⟩
                · rw [show (l ++ [(⟨a, b, y2, y3, y4, false⟩ : Nd)]).length = n + 1 by rw [List.length_append, HN.out]; rfl]; rfl
                · rw [show (l ++ [(⟨a, b, y2, y3, y4, false⟩ : Nd)]).length = n + 1 by rw [List.length_append, HN.out]; rfl]; exact HC5.out
                · exact HN5.out.set4 HK25.out (by decide) _ _ _ _
              · repeat (refine below_set ?_ (by omega))
                exact HB5.out
end Go.Proofs.YtfdhehjfbcddgaaDoor.Pr
