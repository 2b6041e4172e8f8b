/- tree.New, node, Snapshot. Conditions: the nodes are not more than a million, nor is any name longer; the tables of unicode/utf8 lie in memory. -/
import Derived.Test.YtfdhehjfbcddgaaDoorTDo
namespace Go.Proofs.YtfdhehjfbcddgaaDoor.Pr
open Go.RowKit Go.Proofs.YtfdhehjfbcddgaaDoorW.PrintWords Go.Proofs.YtfdhehjfbcddgaaDoorW.PrintLast Go.Proofs.YtfdhehjfbcddgaaDoor
set_option linter.unusedVariables false
def rootS : ByteArray := ⟨#[114, 111, 111, 116]⟩
def newT : Tr := ⟨[⟨1, 0, rootS, 0, false, false⟩], 1, 2, 0⟩
def nodeN (t : Tr) (a : Int) : Nd × Int := ((findN t.l a).1, if rightN t = false then 1 else if (findN t.l a).2 = false ∨ (findN t.l a).1.ghost = true then 4 else 0)
def snapN (t : Tr) (nm : ByteArray) : Pl × Int :=
  if rightN t = false ∨ labelB nm = false ∨ t.nx = 2147483647 then (zP, 1)
  else if 60 ≤ t.l.length then (zP, 6)
  else (⟨[], [⟨1, t.nx, t.lv, t.nw, nm⟩, ⟨6, t.nx, 0, 0, ⟨#[]⟩⟩]⟩, 0)
set_option maxRecDepth 100000 in
theorem tnew_any (w : World) : Calls Tryd.prog 11 #[] w fun e w' => ∃ v, e = .returned v ∧ TrAt w' v newT ∧ Below w.heap.size w w' := by
  go_enter Tryd.func11, Tryd.ntmps11
  go_wp2_with fail
  have h3 := (Blk.new w 28 #[.slice (some ⟨w.heap.size + 1, 0, none⟩) 1 1, .int .i64 1, .int .i64 2, .int .u64 0]).alloc (.cells #[.int .i64 1, .int .i64 0, .string ⟨#[114, 111, 111, 116]⟩, .int .u64 0, .bool false, .bool false] 42)
  have hl := blk_new1 w (.cells #[.slice (some ⟨w.heap.size + 1, 0, none⟩) 1 1, .int .i64 1, .int .i64 2, .int .u64 0] 28) 42 #[.int .i64 1, .int .i64 0, .string ⟨#[114, 111, 111, 116]⟩, .int .u64 0, .bool false, .bool false]
  refine bodyPost_ret (results_cell_row rfl _ _ w.heap.size _ _ _ _ rfl h3 Tryd.underlying28 rfl (by rw [tr_info]; rfl)) rfl ?_
  refine ⟨_, rfl, ⟨some ⟨w.heap.size + 1, 0, none⟩, 1, rfl, Nat.le_refl _, fun _ => ⟨w.heap.size + 1, 0, rfl, ⟨_, _, hl⟩, fun j u hu => ?_⟩⟩, ((Below.refl _ _).alloc (Nat.le_refl _) _).alloc (by simp) _⟩
  rw [Nat.zero_add, hl.cell j, ← Array.getElem?_toList]
  exact hu
set_option maxRecDepth 100000 in
set_option maxHeartbeats 4000000 in
theorem tnode_any (A : Option Addr) (cap : Nat) (l : List Nd) (lv nx nw : Int) (a : Int) (w : World) (hl : l.length ≤ 1000000) (hcp : l.length ≤ cap) (hr : NodesAt w A l) (hT : Tabs w) (hnm : ∀ x ∈ l, x.name.size ≤ 1000000) :
    Calls Tryd.prog 44 #[.agg #[.slice A l.length cap, .int .i64 lv, .int .i64 nx, .int .u64 nw], .int .i64 a] w fun e w' => e = .returned (.tuple #[valN (nodeN ⟨l, lv, nx, nw⟩ a).1, .int .i64 (nodeN ⟨l, lv, nx, nw⟩ a).2]) ∧ Below w.heap.size w w' := by
  have hbel : Below w.heap.size w ((w.alloc (.cells #[.slice A l.length cap, .int .i64 lv, .int .i64 nx, .int .u64 nw] 28)).alloc (.cells #[.int .i64 0, .int .i64 0, .string ⟨#[]⟩, .int .u64 0, .bool false, .bool false] 42)) := ((Below.refl _ _).alloc (Nat.le_refl _) _).alloc (by simp) _
  have hk0 : Blk ((w.alloc (.cells #[.slice A l.length cap, .int .i64 lv, .int .i64 nx, .int .u64 nw] 28)).alloc (.cells #[.int .i64 0, .int .i64 0, .string ⟨#[]⟩, .int .u64 0, .bool false, .bool false] 42)) w.heap.size 28 #[.slice A l.length cap, .int .i64 lv, .int .i64 nx, .int .u64 nw] := (Blk.new w 28 #[.slice A l.length cap, .int .i64 lv, .int .i64 nx, .int .u64 nw]).alloc _
  have hk1 : Blk ((w.alloc (.cells #[.slice A l.length cap, .int .i64 lv, .int .i64 nx, .int .u64 nw] 28)).alloc (.cells #[.int .i64 0, .int .i64 0, .string ⟨#[]⟩, .int .u64 0, .bool false, .bool false] 42)) (w.heap.size + 1) 42 #[.int .i64 0, .int .i64 0, .string ⟨#[]⟩, .int .u64 0, .bool false, .bool false] := blk_new1 w _ _ _
  have hfind := fun (w1 : World) (hx : NodesAt w1 A l) => find_any A cap l lv nx nw a w1 hl hx
  have hright := fun (w1 : World) (hx : NodesAt w1 A l) (ht : Tabs w1) => tright_any A cap l lv nx nw w1 hl hcp hx ht hnm
  have hr0 := hr.below hbel
  have hT0 := hT.below hbel
  have hnd : nodeN ⟨l, lv, nx, nw⟩ a = ((findN l a).1, if rightN ⟨l, lv, nx, nw⟩ = false then 1 else if (findN l a).2 = false ∨ (findN l a).1.ghost = true then 4 else 0) := rfl
  obtain ⟨R, hR⟩ : ∃ R, nodeN ⟨l, lv, nx, nw⟩ a = R := ⟨_, rfl⟩
  obtain ⟨⟨x, oa⟩, hfa⟩ : ∃ q, findN l a = q := ⟨_, rfl⟩
  obtain ⟨rN, hrN⟩ : ∃ q, rightN ⟨l, lv, nx, nw⟩ = q := ⟨_, rfl⟩
  rw [hR, hfa, hrN] at hnd
  rw [hR]
  rw [hfa] at hfind
  rw [hrN] at hright
  obtain ⟨x0, x1, x2, x3, x4, x5⟩ := x
  dsimp only at hnd hfind
  unfold valN at hfind
  dsimp only at hfind
  obtain ⟨n, hn⟩ : ∃ n, l.length = n := ⟨_, rfl⟩
  rw [hn] at hl hbel hk0 hk1 hr0 hT0 hfind hright ⊢
  have HF := Lib.hid hfind
  have HRI := Lib.hid hright
  have HND := Lib.hid hnd
  have HT := Lib.hid hT0
  clear hr hT hnm hcp hfind hright hnd hR hfa hrN hn hT0
  go_enter Tryd.func44, Tryd.ntmps44
  go_upto_region 1 with fail
  generalize ((w.alloc (.cells #[.slice A n cap, .int .i64 lv, .int .i64 nx, .int .u64 nw] 28)).alloc (.cells #[.int .i64 0, .int .i64 0, .string ⟨#[]⟩, .int .u64 0, .bool false, .bool false] 42)) = w0 at hbel hk0 hk1 hr0 HT ⊢
  have t0 : w0.cell? ⟨w.heap.size, 0, none⟩ = some (.slice A n cap) := (hk0.cell 0).trans rfl
  have t1 : w0.cell? ⟨w.heap.size, 1, none⟩ = some (.int .i64 lv) := (hk0.cell 1).trans rfl
  have t2 : w0.cell? ⟨w.heap.size, 2, none⟩ = some (.int .i64 nx) := (hk0.cell 2).trans rfl
  have t3 : w0.cell? ⟨w.heap.size, 3, none⟩ = some (.int .u64 nw) := (hk0.cell 3).trans rfl
  have HB := Lib.hid hbel
  have HK0 := Lib.hid hk0
  have HK1 := Lib.hid hk1
  have HR := Lib.hid hr0
  clear hbel hk0 hk1 hr0
  go_wp2_with fail
  refine (HF.out w0 HR.out).mono ?_
  rintro e w1 ⟨rfl, hb1⟩
  have hbx := hb1.alloc hb1.size (.cells #[.int .i64 x0, .int .i64 x1, .string x2, .int .u64 x3, .bool x4, .bool x5] 42)
  have hx := Blk.new w1 42 #[.int .i64 x0, .int .i64 x1, .string x2, .int .u64 x3, .bool x4, .bool x5]
  obtain ⟨g, hg⟩ : ∃ g, g = w1.heap.size := ⟨_, rfl⟩
  have HG := Lib.hid hg
  clear t0 t1 t2 t3 hb1 hg HF
  go_upto_region 2 with fail
  rw [← HG.out] at hx ⊢
  generalize (w1.alloc (.cells #[.int .i64 x0, .int .i64 x1, .string x2, .int .u64 x3, .bool x4, .bool x5] 42)) = w2 at hbx hx ⊢
  have k0 := HK0.out.below hbx HK0.out.lt
  have k1 := HK1.out.below hbx HK1.out.lt
  have hr2 := HR.out.below hbx
  have ht2 := HT.out.below hbx
  have hb2 := HB.out.trans (hbx.mono HB.out.size)
  have t0 : w2.cell? ⟨w.heap.size, 0, none⟩ = some (.slice A n cap) := (k0.cell 0).trans rfl
  have t1 : w2.cell? ⟨w.heap.size, 1, none⟩ = some (.int .i64 lv) := (k0.cell 1).trans rfl
  have t2 : w2.cell? ⟨w.heap.size, 2, none⟩ = some (.int .i64 nx) := (k0.cell 2).trans rfl
  have t3 : w2.cell? ⟨w.heap.size, 3, none⟩ = some (.int .u64 nw) := (k0.cell 3).trans rfl
  clear HK0 HK1 HR HT HB hbx
  have HK1 := Lib.hid k1
  have HX := Lib.hid hx
  have HB := Lib.hid hb2
  have HRW := Lib.hid (HRI.out w2 hr2 ht2)
  clear k0 k1 hr2 ht2 hb2 hx HRI
  go_wp2_with fail
  refine HRW.out.mono ?_
  rintro e w3 ⟨rfl, hb3⟩
  have k1 := HK1.out.below hb3 HK1.out.lt
  have hx := HX.out.below hb3 HX.out.lt
  have hb3' := HB.out.trans (hb3.mono HB.out.size)
  have e0 : w3.cell? ⟨g, 0, none⟩ = some (.int .i64 x0) := (hx.cell 0).trans rfl
  have e1 : w3.cell? ⟨g, 1, none⟩ = some (.int .i64 x1) := (hx.cell 1).trans rfl
  have e2 : w3.cell? ⟨g, 2, none⟩ = some (.string x2) := (hx.cell 2).trans rfl
  have e3 : w3.cell? ⟨g, 3, none⟩ = some (.int .u64 x3) := (hx.cell 3).trans rfl
  have e4 : w3.cell? ⟨g, 4, none⟩ = some (.bool x4) := (hx.cell 4).trans rfl
  have e5 : w3.cell? ⟨g, 5, none⟩ = some (.bool x5) := (hx.cell 5).trans rfl
  have c0 : w3.cell? ⟨w.heap.size + 1, 0, none⟩ = some (.int .i64 0) := (k1.cell 0).trans rfl
  have c1 : w3.cell? ⟨w.heap.size + 1, 1, none⟩ = some (.int .i64 0) := (k1.cell 1).trans rfl
  have c2 : w3.cell? ⟨w.heap.size + 1, 2, none⟩ = some (.string ⟨#[]⟩) := (k1.cell 2).trans rfl
  have c3 : w3.cell? ⟨w.heap.size + 1, 3, none⟩ = some (.int .u64 0) := (k1.cell 3).trans rfl
  have c4 : w3.cell? ⟨w.heap.size + 1, 4, none⟩ = some (.bool false) := (k1.cell 4).trans rfl
  have c5 : w3.cell? ⟨w.heap.size + 1, 5, none⟩ = some (.bool false) := (k1.cell 5).trans rfl
  have f0 := k1.frozen 0
  have f1 := k1.frozen 1
  have f2 := k1.frozen 2
  have f3 := k1.frozen 3
  have f4 := k1.frozen 4
  have f5 := k1.frozen 5
  clear t0 t1 t2 t3 HK1 HX HB HRW hb3 hx
  have HK1 := Lib.hid k1
  have HB := Lib.hid hb3'
  clear k1 hb3'
  cases rN with
  | false =>
    have HR2 := Lib.hid (show R = (⟨x0, x1, x2, x3, x4, x5⟩, 1) by rw [HND.out]; simp)
    clear HND
    go_wp2_with fail
    have h3 := (((((HK1.out.set_ 0 (.int .i64 x0)).set_ 1 (.int .i64 x1)).set_ 2 (.string x2)).set_ 3 (.int .u64 x3)).set_ 4 (.bool x4)).set_ 5 (.bool x5)
    refine bodyPost_ret (results_row_tmp rfl _ _ (w.heap.size + 1) _ _ _ _ rfl h3 Tryd.underlying42 rfl (by rw [nd_info]; rfl)) rfl ?_
    refine ⟨by rw [HR2.out]; rfl, ?_⟩
    repeat (refine below_set ?_ (by omega))
    exact HB.out
  | true =>
    cases oa with
    | false =>
      have HR2 := Lib.hid (show R = (⟨x0, x1, x2, x3, x4, x5⟩, 4) by rw [HND.out]; simp)
      clear HND
      go_wp2_with fail
      have h3 := (((((HK1.out.set_ 0 (.int .i64 x0)).set_ 1 (.int .i64 x1)).set_ 2 (.string x2)).set_ 3 (.int .u64 x3)).set_ 4 (.bool x4)).set_ 5 (.bool x5)
      refine bodyPost_ret (results_row_tmp rfl _ _ (w.heap.size + 1) _ _ _ _ rfl h3 Tryd.underlying42 rfl (by rw [nd_info]; rfl)) rfl ?_
      refine ⟨by rw [HR2.out]; rfl, ?_⟩
      repeat (refine below_set ?_ (by omega))
      exact HB.out
    | true =>
      cases x4 with
      | true =>
        have HR2 := Lib.hid (show R = (⟨x0, x1, x2, x3, true, x5⟩, 4) by rw [HND.out]; simp)
        clear HND
        go_wp2_with fail
        have h3 := (((((HK1.out.set_ 0 (.int .i64 x0)).set_ 1 (.int .i64 x1)).set_ 2 (.string x2)).set_ 3 (.int .u64 x3)).set_ 4 (.bool true)).set_ 5 (.bool x5)
        refine bodyPost_ret (results_row_tmp rfl _ _ (w.heap.size + 1) _ _ _ _ rfl h3 Tryd.underlying42 rfl (by rw [nd_info]; rfl)) rfl ?_
        refine ⟨by rw [HR2.out]; rfl, ?_⟩
        repeat (refine below_set ?_ (by omega))
        exact HB.out
      | false =>
        have HR2 := Lib.hid (show R = (⟨x0, x1, x2, x3, false, x5⟩, 0) by rw [HND.out]; simp)
        clear HND
        go_wp2_with fail
        have h3 := (((((HK1.out.set_ 0 (.int .i64 x0)).set_ 1 (.int .i64 x1)).set_ 2 (.string x2)).set_ 3 (.int .u64 x3)).set_ 4 (.bool false)).set_ 5 (.bool x5)
        refine bodyPost_ret (results_row_tmp rfl _ _ (w.heap.size + 1) _ _ _ _ rfl h3 Tryd.underlying42 rfl (by rw [nd_info]; rfl)) rfl ?_
        refine ⟨by rw [HR2.out]; rfl, ?_⟩
        repeat (refine below_set ?_ (by omega))
        exact HB.out
set_option maxRecDepth 100000 in
set_option maxHeartbeats 4000000 in
theorem tsnap_any (A : Option Addr) (cap : Nat) (l : List Nd) (lv nx nw : Int) (nm : ByteArray) (w : World) (hl : l.length ≤ 1000000) (hcp : l.length ≤ cap) (hr : NodesAt w A l) (hT : Tabs w) (hnm : ∀ x ∈ l, x.name.size ≤ 1000000) (hsz : nm.size ≤ 1000000) :
    Calls Tryd.prog 14 #[.agg #[.slice A l.length cap, .int .i64 lv, .int .i64 nx, .int .u64 nw], .string nm] w fun e w' => ∃ v, e = .returned (.tuple #[v, .int .i64 (snapN ⟨l, lv, nx, nw⟩ nm).2]) ∧ PlAt w' v (snapN ⟨l, lv, nx, nw⟩ nm).1 ∧ Below w.heap.size w w' := by
  have hbel : Below w.heap.size w ((w.alloc (.cells #[.slice A l.length cap, .int .i64 lv, .int .i64 nx, .int .u64 nw] 28)).alloc (.cells #[.slice none 0 0, .slice none 0 0] 33)) := ((Below.refl _ _).alloc (Nat.le_refl _) _).alloc (by simp) _
  have hk0 : Blk ((w.alloc (.cells #[.slice A l.length cap, .int .i64 lv, .int .i64 nx, .int .u64 nw] 28)).alloc (.cells #[.slice none 0 0, .slice none 0 0] 33)) w.heap.size 28 #[.slice A l.length cap, .int .i64 lv, .int .i64 nx, .int .u64 nw] := (Blk.new w 28 #[.slice A l.length cap, .int .i64 lv, .int .i64 nx, .int .u64 nw]).alloc _
  have hk1 : Blk ((w.alloc (.cells #[.slice A l.length cap, .int .i64 lv, .int .i64 nx, .int .u64 nw] 28)).alloc (.cells #[.slice none 0 0, .slice none 0 0] 33)) (w.heap.size + 1) 33 #[.slice none 0 0, .slice none 0 0] := blk_new1 w _ _ _
  have hright := fun (w1 : World) (hx : NodesAt w1 A l) (ht : Tabs w1) => tright_any A cap l lv nx nw w1 hl hcp hx ht hnm
  have hlab := fun (w1 : World) (ht : Tabs w1) => right_any nm w1 hsz ht
  have hr0 := hr.below hbel
  have hT0 := hT.below hbel
  have hnd : snapN ⟨l, lv, nx, nw⟩ nm = if rightN ⟨l, lv, nx, nw⟩ = false ∨ labelB nm = false ∨ nx = 2147483647 then (zP, 1) else if 60 ≤ l.length then (zP, 6) else (⟨[], [⟨1, nx, lv, nw, nm⟩, ⟨6, nx, 0, 0, ⟨#[]⟩⟩]⟩, 0) := rfl
  obtain ⟨R, hR⟩ : ∃ R, snapN ⟨l, lv, nx, nw⟩ nm = R := ⟨_, rfl⟩
  obtain ⟨rN, hrN⟩ : ∃ q, rightN ⟨l, lv, nx, nw⟩ = q := ⟨_, rfl⟩
  obtain ⟨lB, hlB⟩ : ∃ q, labelB nm = q := ⟨_, rfl⟩
  rw [hR, hrN, hlB] at hnd
  rw [hR]
  rw [hrN] at hright
  rw [hlB] at hlab
  obtain ⟨n, hn⟩ : ∃ n, l.length = n := ⟨_, rfl⟩
  rw [hn] at hl hbel hk0 hk1 hr0 hT0 hright hnd ⊢
  have HRI := Lib.hid hright
  have HLA := Lib.hid hlab
  have HND := Lib.hid hnd
  have HT := Lib.hid hT0
  clear hr hT hnm hcp hright hlab hnd hR hrN hlB hn hT0
  go_enter Tryd.func14, Tryd.ntmps14
  go_upto_region 1 with fail
  generalize ((w.alloc (.cells #[.slice A n cap, .int .i64 lv, .int .i64 nx, .int .u64 nw] 28)).alloc (.cells #[.slice none 0 0, .slice none 0 0] 33)) = w0 at hbel hk0 hk1 hr0 HT ⊢
  have t0 : w0.cell? ⟨w.heap.size, 0, none⟩ = some (.slice A n cap) := (hk0.cell 0).trans rfl
  have t1 : w0.cell? ⟨w.heap.size, 1, none⟩ = some (.int .i64 lv) := (hk0.cell 1).trans rfl
  have t2 : w0.cell? ⟨w.heap.size, 2, none⟩ = some (.int .i64 nx) := (hk0.cell 2).trans rfl
  have t3 : w0.cell? ⟨w.heap.size, 3, none⟩ = some (.int .u64 nw) := (hk0.cell 3).trans rfl
  have HB := Lib.hid hbel
  have HK0 := Lib.hid hk0
  have HK1 := Lib.hid hk1
  have HRW := Lib.hid (HRI.out w0 hr0 HT.out)
  clear hbel hk0 hk1 hr0 HRI
  go_wp2_with fail
  refine HRW.out.mono ?_
  rintro e w1 ⟨rfl, hb1⟩
  have k0 := HK0.out.below hb1 HK0.out.lt
  have k1 := HK1.out.below hb1 HK1.out.lt
  have ht2 := HT.out.below hb1
  have hb2 := HB.out.trans (hb1.mono HB.out.size)
  clear t0 t1 t2 t3 HK0 HK1 HT HB hb1 HRW
  have t0 : w1.cell? ⟨w.heap.size, 0, none⟩ = some (.slice A n cap) := (k0.cell 0).trans rfl
  have t1 : w1.cell? ⟨w.heap.size, 1, none⟩ = some (.int .i64 lv) := (k0.cell 1).trans rfl
  have t2 : w1.cell? ⟨w.heap.size, 2, none⟩ = some (.int .i64 nx) := (k0.cell 2).trans rfl
  have t3 : w1.cell? ⟨w.heap.size, 3, none⟩ = some (.int .u64 nw) := (k0.cell 3).trans rfl
  have c0 : w1.cell? ⟨w.heap.size + 1, 0, none⟩ = some (.slice none 0 0) := (k1.cell 0).trans rfl
  have c1 : w1.cell? ⟨w.heap.size + 1, 1, none⟩ = some (.slice none 0 0) := (k1.cell 1).trans rfl
  have f0 := k1.frozen 0
  have f1 := k1.frozen 1
  have HK0 := Lib.hid k0
  have HK1 := Lib.hid k1
  have HT := Lib.hid ht2
  have HB := Lib.hid hb2
  have hwl : w.heap.size + 1 < w1.heap.size := k1.lt
  clear k0 k1 ht2 hb2
  cases rN with
  | false =>
    have HR2 := Lib.hid (show R = (zP, 1) by rw [HND.out]; simp)
    clear HND
    go_wp2_with fail
    have h3 := (HK1.out.set_ 0 (.slice none 0 0)).set_ 1 (.slice none 0 0)
    refine bodyPost_ret (results_row_tmp rfl _ _ (w.heap.size + 1) _ _ _ _ rfl h3 Tryd.underlying33 rfl (by rw [pl_info]; rfl)) rfl ?_
    refine ⟨_, by rw [HR2.out]; rfl, by rw [HR2.out]; exact PlAt.zero _, ?_⟩
    repeat (refine below_set ?_ (by omega))
    exact HB.out
  | true =>
    have HLW := Lib.hid (HLA.out w1 HT.out)
    clear HLA
    go_wp2_with fail
    refine HLW.out.mono ?_
    rintro e w3 ⟨rfl, hb3⟩
    have k0 := HK0.out.below hb3 HK0.out.lt
    have k1 := HK1.out.below hb3 HK1.out.lt
    have hb4 := HB.out.trans (hb3.mono HB.out.size)
    have hwl2 := k1.lt
    clear t0 t1 t2 t3 c0 c1 f0 f1 HK0 HK1 HB hb3 HLW hwl
    have t0 : w3.cell? ⟨w.heap.size, 0, none⟩ = some (.slice A n cap) := (k0.cell 0).trans rfl
    have t1 : w3.cell? ⟨w.heap.size, 1, none⟩ = some (.int .i64 lv) := (k0.cell 1).trans rfl
    have t2 : w3.cell? ⟨w.heap.size, 2, none⟩ = some (.int .i64 nx) := (k0.cell 2).trans rfl
    have t3 : w3.cell? ⟨w.heap.size, 3, none⟩ = some (.int .u64 nw) := (k0.cell 3).trans rfl
    have c0 : w3.cell? ⟨w.heap.size + 1, 0, none⟩ = some (.slice none 0 0) := (k1.cell 0).trans rfl
    have c1 : w3.cell? ⟨w.heap.size + 1, 1, none⟩ = some (.slice none 0 0) := (k1.cell 1).trans rfl
    have f0 := k1.frozen 0
    have f1 := k1.frozen 1
    have HK1 := Lib.hid k1
    have HB := Lib.hid hb4
    clear k0 k1 hb4
    cases lB with
    | false =>
      have HR2 := Lib.hid (show R = (zP, 1) by rw [HND.out]; simp)
      clear HND
      go_wp2_with fail
      have h3 := (HK1.out.set_ 0 (.slice none 0 0)).set_ 1 (.slice none 0 0)
      refine bodyPost_ret (results_row_tmp rfl _ _ (w.heap.size + 1) _ _ _ _ rfl h3 Tryd.underlying33 rfl (by rw [pl_info]; rfl)) rfl ?_
      refine ⟨_, by rw [HR2.out]; rfl, by rw [HR2.out]; exact PlAt.zero _, ?_⟩
      repeat (refine below_set ?_ (by omega))
      exact HB.out
    | true =>
      by_cases h1 : nx = 2147483647
      · have HR2 := Lib.hid (show R = (zP, 1) by rw [HND.out]; simp [h1])
        clear HND
        go_wp2_with fail
        have h3 := (HK1.out.set_ 0 (.slice none 0 0)).set_ 1 (.slice none 0 0)
        refine bodyPost_ret (results_row_tmp rfl _ _ (w.heap.size + 1) _ _ _ _ rfl h3 Tryd.underlying33 rfl (by rw [pl_info]; rfl)) rfl ?_
        refine ⟨_, by rw [HR2.out]; rfl, by rw [HR2.out]; exact PlAt.zero _, ?_⟩
        repeat (refine below_set ?_ (by omega))
        exact HB.out
      · by_cases h60 : 60 ≤ n
        · have HR2 := Lib.hid (show R = (zP, 6) by rw [HND.out]; simp [h1, h60])
          clear HND
          go_wp2_with fail
          have h3 := (HK1.out.set_ 0 (.slice none 0 0)).set_ 1 (.slice none 0 0)
          refine bodyPost_ret (results_row_tmp rfl _ _ (w.heap.size + 1) _ _ _ _ rfl h3 Tryd.underlying33 rfl (by rw [pl_info]; rfl)) rfl ?_
          refine ⟨_, by rw [HR2.out]; rfl, by rw [HR2.out]; exact PlAt.zero _, ?_⟩
          repeat (refine below_set ?_ (by omega))
          exact HB.out
        · have HR2 := Lib.hid (show R = (⟨[], [⟨1, nx, lv, nw, nm⟩, ⟨6, nx, 0, 0, ⟨#[]⟩⟩]⟩, 0) by rw [HND.out]; simp [h1, h60])
          clear HND
          go_wp2_with fail
          have hs := Blk.new ((w3.setCell ⟨w.heap.size + 1, 0, none⟩ (.slice none 0 0)).setCell ⟨w.heap.size + 1, 1, none⟩ (.slice (some ⟨w3.heap.size, 0, none⟩) 2 2)) 62 #[.int .i64 1, .int .i64 nx, .int .i64 lv, .int .u64 nw, .string nm, .int .i64 6, .int .i64 nx, .int .i64 0, .int .u64 0, .string ⟨#[]⟩]
          rw [show ((w3.setCell ⟨w.heap.size + 1, 0, none⟩ (.slice none 0 0)).setCell ⟨w.heap.size + 1, 1, none⟩ (.slice (some ⟨w3.heap.size, 0, none⟩) 2 2)).heap.size = w3.heap.size by simp [World.setCell]] at hs
          have h3 := ((HK1.out.set_ 0 (.slice none 0 0)).set_ 1 (.slice (some ⟨w3.heap.size, 0, none⟩) 2 2)).alloc (.cells #[.int .i64 1, .int .i64 nx, .int .i64 lv, .int .u64 nw, .string nm, .int .i64 6, .int .i64 nx, .int .i64 0, .int .u64 0, .string ⟨#[]⟩] 62)
          refine bodyPost_ret (results_row_tmp rfl _ _ (w.heap.size + 1) _ _ _ _ rfl h3 Tryd.underlying33 rfl (by rw [pl_info]; rfl)) rfl ?_
          refine ⟨_, by rw [HR2.out]; rfl, ?_, ?_⟩
          · rw [HR2.out]
            exact ⟨none, 0, some ⟨w3.heap.size, 0, none⟩, 2, rfl, RowAt.nil _ _, fun _ => ⟨w3.heap.size, 0, rfl, ⟨_, _, hs⟩, fun j u hu => by rw [Nat.zero_add, hs.cell j, ← Array.getElem?_toList]; exact hu⟩⟩
          · refine below_alloc ?_ _
            repeat (refine below_set ?_ (by omega))
            exact HB.out
end Go.Proofs.YtfdhehjfbcddgaaDoor.Pr
