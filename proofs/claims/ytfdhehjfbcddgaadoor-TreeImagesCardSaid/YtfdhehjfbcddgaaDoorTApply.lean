/- tree.Apply: does a step. Conditions: the nodes are not more than a million, nor is any name longer, nor the step's text; the tables of unicode/utf8 lie in memory. -/
import Derived.Test.YtfdhehjfbcddgaaDoorTChange
import Derived.Test.YtfdhehjfbcddgaaDoorTRight
namespace Go.Proofs.YtfdhehjfbcddgaaDoor.Pr
open Go.RowKit Go.Proofs.YtfdhehjfbcddgaaDoorW.PrintWords Go.Proofs.YtfdhehjfbcddgaaDoorW.PrintLast Go.Proofs.YtfdhehjfbcddgaaDoor
set_option linter.unusedVariables false
theorem NodesAt.drew {w : World} {A : Option Addr} {l : List Nd} (h : NodesAt w A l) : NodesAt w.drew A l := h
/-- the load of a tree's next number (named, so that the walk of the region that draws takes it as it comes) -/
def ldN : Op := .load 3 (.tmp 95)
attribute [local go_sem] ldN
theorem plc_lt {l : List Nd} (hs : SrtN l) {a : Int} (h : (findN l a).2 = true) : plc l a < l.length := by
  obtain ⟨x, hx, rfl⟩ := find_iff.1 h
  exact (plc_found hs hx).1
set_option maxRecDepth 100000 in
set_option maxHeartbeats 8000000 in
theorem tapply_any (A : Option Addr) (cap : Nat) (l : List Nd) (lv nx nw : Int) (kd a b sn : Int) (tx : ByteArray) (w : World) (hl : l.length ≤ 1000000) (hcp : l.length ≤ cap) (hr : NodesAt w A l) (hT : Tabs w) (hnm : ∀ x ∈ l, x.name.size ≤ 1000000) (htx : tx.size ≤ 1000000) :
    Calls Tryd.prog 21 #[.agg #[.slice A l.length cap, .int .i64 lv, .int .i64 nx, .int .u64 nw], .agg #[.int .i64 kd, .int .i64 a, .int .i64 b, .int .u64 sn, .string tx]] w fun e w' => ∃ v, e = .returned (.tuple #[v, .int .i64 (applyN ⟨l, lv, nx, nw⟩ ⟨kd, a, b, sn, tx⟩).2]) ∧ TrAt w' v (applyN ⟨l, lv, nx, nw⟩ ⟨kd, a, b, sn, tx⟩).1 ∧ Below w.heap.size w w' := by
  have hbel : Below w.heap.size w (((w.alloc (.cells #[.slice A l.length cap, .int .i64 lv, .int .i64 nx, .int .u64 nw] 28)).alloc (.cells #[.int .i64 kd, .int .i64 a, .int .i64 b, .int .u64 sn, .string tx] 62)).alloc (.cells #[.slice none 0 0, .int .i64 0, .int .i64 0, .int .u64 0] 28)) := (((Below.refl _ _).alloc (Nat.le_refl _) _).alloc (by simp) _).alloc (by simp; omega) _
  have hk0 : Blk (((w.alloc (.cells #[.slice A l.length cap, .int .i64 lv, .int .i64 nx, .int .u64 nw] 28)).alloc (.cells #[.int .i64 kd, .int .i64 a, .int .i64 b, .int .u64 sn, .string tx] 62)).alloc (.cells #[.slice none 0 0, .int .i64 0, .int .i64 0, .int .u64 0] 28)) w.heap.size 28 #[.slice A l.length cap, .int .i64 lv, .int .i64 nx, .int .u64 nw] := ((Blk.new w 28 #[.slice A l.length cap, .int .i64 lv, .int .i64 nx, .int .u64 nw]).alloc _).alloc _
  have hk1 : Blk (((w.alloc (.cells #[.slice A l.length cap, .int .i64 lv, .int .i64 nx, .int .u64 nw] 28)).alloc (.cells #[.int .i64 kd, .int .i64 a, .int .i64 b, .int .u64 sn, .string tx] 62)).alloc (.cells #[.slice none 0 0, .int .i64 0, .int .i64 0, .int .u64 0] 28)) (w.heap.size + 1) 62 #[.int .i64 kd, .int .i64 a, .int .i64 b, .int .u64 sn, .string tx] := (blk_new1 w _ _ _).alloc _
  have hk2 : Blk (((w.alloc (.cells #[.slice A l.length cap, .int .i64 lv, .int .i64 nx, .int .u64 nw] 28)).alloc (.cells #[.int .i64 kd, .int .i64 a, .int .i64 b, .int .u64 sn, .string tx] 62)).alloc (.cells #[.slice none 0 0, .int .i64 0, .int .i64 0, .int .u64 0] 28)) (w.heap.size + 1 + 1) 28 #[.slice none 0 0, .int .i64 0, .int .i64 0, .int .u64 0] := blk_new2 w _ _ _ _
  have hr0 := hr.below hbel
  have hT0 := hT.below hbel
  have hfind := fun (b : Int) (w1 : World) (hx : NodesAt w1 A l) => find_any A cap l lv nx nw b w1 hl hx
  have hright := fun (w1 : World) (hx : NodesAt w1 A l) (ht : Tabs w1) => tright_any A cap l lv nx nw w1 hl hcp hx ht hnm
  have hstep := fun (kd : Int) (w1 : World) (ht : Tabs w1) => sright_any ⟨kd, a, b, sn, tx⟩ w1 htx ht
  have hmake := fun (kd : Int) (w1 : World) (hx : NodesAt w1 A l) (h1 : a ≤ 2147483647) (h2 : 0 ≤ a) => tmake_any A cap l lv nx nw kd a b sn tx w1 hl hx h1 h2
  have hmove := fun (w1 : World) (hx : NodesAt w1 A l) (h : (findN l a).2 = true → plc l a < l.length) => tmove_any A cap l lv nx nw a b w1 hl hx h
  have hchange := fun (kd : Int) (w1 : World) (hx : NodesAt w1 A l) (h : (findN l a).2 = true → plc l a < l.length) => tchange_any A cap l lv nx nw kd a b sn tx w1 hl hx h
  have hap : ∀ kd, applyN ⟨l, lv, nx, nw⟩ ⟨kd, a, b, sn, tx⟩ = if rightN ⟨l, lv, nx, nw⟩ = false ∨ stepB ⟨kd, a, b, sn, tx⟩ = false ∨ kd = 8 ∨ (kd = 7 ∧ sn < nw) then (zT, 1)
    else if kd = 1 then makeN ⟨l, lv, nx, nw⟩ ⟨kd, a, b, sn, tx⟩ else if kd = 4 then moveN ⟨l, lv, nx, nw⟩ a b else if kd = 6 ∧ (findN l a).2 = false then (zT, 4) else if kd = 6 ∧ 0 < b ∧ b < nx then (zT, 1)
    else if kd = 6 then (⟨l, a, max nx b, nw⟩, 0) else if kd = 7 then (⟨l, lv, nx, sn⟩, 0) else changeN ⟨l, lv, nx, nw⟩ ⟨kd, a, b, sn, tx⟩ := fun kd => rfl
  have hplc : rightN ⟨l, lv, nx, nw⟩ = true → (findN l a).2 = true → plc l a < l.length := fun h1 h2 => plc_lt ((right_iff _).1 h1).srt h2
  have hsb : ∀ kd, stepB ⟨kd, a, b, sn, tx⟩ = true → 0 ≤ a ∧ a ≤ 2147483647 ∧ 0 ≤ b := fun kd h => by
    obtain ⟨_, _, _, h4, h5, h6, _⟩ := (stepB_iff _).1 h
    exact ⟨h4, h5, h6⟩
  obtain ⟨R, hR⟩ : ∃ R, applyN ⟨l, lv, nx, nw⟩ ⟨kd, a, b, sn, tx⟩ = R := ⟨_, rfl⟩
  have hap1 := hap kd
  rw [hR] at hap1 ⊢
  obtain ⟨⟨x, oa⟩, hfa⟩ : ∃ q, findN l a = q := ⟨_, rfl⟩
  obtain ⟨rN, hrN⟩ : ∃ q, rightN ⟨l, lv, nx, nw⟩ = q := ⟨_, rfl⟩
  obtain ⟨sB, hsB⟩ : ∃ q, stepB ⟨kd, a, b, sn, tx⟩ = q := ⟨_, rfl⟩
  have hsb1 := hsb kd
  have hstep1 := hstep kd
  rw [hfa] at hap1 hmove hchange hplc
  rw [hrN] at hap1 hright hplc
  rw [hsB] at hap1 hsb1 hstep1
  have HF := Lib.hid hfind
  have HFA := Lib.hid hfa
  have HRI := Lib.hid hright
  have HST := Lib.hid hstep1
  have HMA := Lib.hid (hmake kd)
  have HMO := Lib.hid hmove
  have HCH := Lib.hid (hchange kd)
  have HAP := Lib.hid hap1
  have HPL := Lib.hid hplc
  have HSB := Lib.hid hsb1
  obtain ⟨n, hn⟩ : ∃ n, l.length = n := ⟨_, rfl⟩
  have HN := Lib.hid hn
  rw [hn] at hl hcp hbel hk0 hk1 hk2 hr0 hT0 HF HRI HMA HMO HCH ⊢
  have HCP := Lib.hid hcp
  clear hr hT hfind hright hstep hstep1 hmake hmove hchange hap hap1 hplc hsb hsb1 hR hfa hrN hsB hn hcp
  go_enter Tryd.func21, Tryd.ntmps21
  go_upto_region 1 with fail
  generalize (((w.alloc (.cells #[.slice A n cap, .int .i64 lv, .int .i64 nx, .int .u64 nw] 28)).alloc (.cells #[.int .i64 kd, .int .i64 a, .int .i64 b, .int .u64 sn, .string tx] 62)).alloc (.cells #[.slice none 0 0, .int .i64 0, .int .i64 0, .int .u64 0] 28)) = w0 at hbel hk0 hk1 hk2 hr0 hT0 ⊢
  have k0 := hk0
  have k1 := hk1
  have t0 : w0.cell? ⟨w.heap.size, 0, none⟩ = some (.slice A n cap) := (k0.cell 0).trans rfl
  have t1 : w0.cell? ⟨w.heap.size, 1, none⟩ = some (.int .i64 lv) := (k0.cell 1).trans rfl
  have t2 : w0.cell? ⟨w.heap.size, 2, none⟩ = some (.int .i64 nx) := (k0.cell 2).trans rfl
  have t3 : w0.cell? ⟨w.heap.size, 3, none⟩ = some (.int .u64 nw) := (k0.cell 3).trans rfl
  have s0 : w0.cell? ⟨w.heap.size + 1, 0, none⟩ = some (.int .i64 kd) := (k1.cell 0).trans rfl
  have s1 : w0.cell? ⟨w.heap.size + 1, 1, none⟩ = some (.int .i64 a) := (k1.cell 1).trans rfl
  have s2 : w0.cell? ⟨w.heap.size + 1, 2, none⟩ = some (.int .i64 b) := (k1.cell 2).trans rfl
  have s3 : w0.cell? ⟨w.heap.size + 1, 3, none⟩ = some (.int .u64 sn) := (k1.cell 3).trans rfl
  have s4 : w0.cell? ⟨w.heap.size + 1, 4, none⟩ = some (.string tx) := (k1.cell 4).trans rfl
  have HB := Lib.hid hbel
  have HK0 := Lib.hid hk0
  have HK1 := Lib.hid hk1
  have HK2 := Lib.hid hk2
  have HR := Lib.hid hr0
  have HT := Lib.hid hT0
  clear hbel hk0 hk1 hk2 hr0 hT0 k0 k1
  have hf1 := HF.out a w0 HR.out
  rw [HFA.out] at hf1
  obtain ⟨x0, x1, x2, x3, x4, x5⟩ := x
  unfold valN at hf1
  dsimp only at hf1
  have HF1 := Lib.hid hf1
  clear hf1
  go_wp2_with fail
  refine HF1.out.mono ?_
  rintro e w1 ⟨rfl, hb1⟩
  have hbx := hb1.alloc hb1.size (.cells #[.int .i64 x0, .int .i64 x1, .string x2, .int .u64 x3, .bool x4, .bool x5] 42)
  clear t0 t1 t2 t3 s0 s1 s2 s3 s4 HF1 hb1
  go_upto_region 2 with fail
  generalize (w1.alloc (.cells #[.int .i64 x0, .int .i64 x1, .string x2, .int .u64 x3, .bool x4, .bool x5] 42)) = w2 at hbx ⊢
  have k0 := HK0.out.below hbx HK0.out.lt
  have k1 := HK1.out.below hbx HK1.out.lt
  have k2 := HK2.out.below hbx HK2.out.lt
  have hrn := HR.out.below hbx
  have htn := HT.out.below hbx
  have hbn := HB.out.trans (hbx.mono HB.out.size)
  have hltw2 := k2.lt
  clear HK0 HK1 HK2 HR HT HB hbx
  have HK0 := Lib.hid k0
  have HK1 := Lib.hid k1
  have HK2 := Lib.hid k2
  have HR := Lib.hid hrn
  have HT := Lib.hid htn
  have HB := Lib.hid hbn
  have t0 : w2.cell? ⟨w.heap.size, 0, none⟩ = some (.slice A n cap) := (k0.cell 0).trans rfl
  have t1 : w2.cell? ⟨w.heap.size, 1, none⟩ = some (.int .i64 lv) := (k0.cell 1).trans rfl
  have t2 : w2.cell? ⟨w.heap.size, 2, none⟩ = some (.int .i64 nx) := (k0.cell 2).trans rfl
  have t3 : w2.cell? ⟨w.heap.size, 3, none⟩ = some (.int .u64 nw) := (k0.cell 3).trans rfl
  have s0 : w2.cell? ⟨w.heap.size + 1, 0, none⟩ = some (.int .i64 kd) := (k1.cell 0).trans rfl
  have s1 : w2.cell? ⟨w.heap.size + 1, 1, none⟩ = some (.int .i64 a) := (k1.cell 1).trans rfl
  have s2 : w2.cell? ⟨w.heap.size + 1, 2, none⟩ = some (.int .i64 b) := (k1.cell 2).trans rfl
  have s3 : w2.cell? ⟨w.heap.size + 1, 3, none⟩ = some (.int .u64 sn) := (k1.cell 3).trans rfl
  have s4 : w2.cell? ⟨w.heap.size + 1, 4, none⟩ = some (.string tx) := (k1.cell 4).trans rfl
  have c0 : w2.cell? ⟨w.heap.size + 1 + 1, 0, none⟩ = some (.slice none 0 0) := (k2.cell 0).trans rfl
  have c1 : w2.cell? ⟨w.heap.size + 1 + 1, 1, none⟩ = some (.int .i64 0) := (k2.cell 1).trans rfl
  have c2 : w2.cell? ⟨w.heap.size + 1 + 1, 2, none⟩ = some (.int .i64 0) := (k2.cell 2).trans rfl
  have c3 : w2.cell? ⟨w.heap.size + 1 + 1, 3, none⟩ = some (.int .u64 0) := (k2.cell 3).trans rfl
  have f0 := k2.frozen 0
  have f1 := k2.frozen 1
  have f2 := k2.frozen 2
  have f3 := k2.frozen 3
  have g0 := k0.frozen 0
  have g1 := k0.frozen 1
  have g2 := k0.frozen 2
  have g3 := k0.frozen 3
  clear k0 k1 k2 hrn htn hbn
  clear HF HFA
  have hri := HRI.out w2 HR.out HT.out
  have HRW := Lib.hid hri
  clear hri HRI
  go_wp2_with fail
  refine HRW.out.mono ?_
  rintro e w3 ⟨rfl, hb3⟩
  clear t0 t1 t2 t3 s0 s1 s2 s3 s4 c0 c1 c2 c3 f0 f1 f2 f3 g0 g1 g2 g3 HRW
  have k0 := HK0.out.below hb3 HK0.out.lt
  have k1 := HK1.out.below hb3 HK1.out.lt
  have k2 := HK2.out.below hb3 HK2.out.lt
  have hrn := HR.out.below hb3
  have htn := HT.out.below hb3
  have hbn := HB.out.trans (hb3.mono HB.out.size)
  have hltw3 := k2.lt
  clear HK0 HK1 HK2 HR HT HB hb3
  have HK0 := Lib.hid k0
  have HK1 := Lib.hid k1
  have HK2 := Lib.hid k2
  have HR := Lib.hid hrn
  have HT := Lib.hid htn
  have HB := Lib.hid hbn
  have t0 : w3.cell? ⟨w.heap.size, 0, none⟩ = some (.slice A n cap) := (k0.cell 0).trans rfl
  have t1 : w3.cell? ⟨w.heap.size, 1, none⟩ = some (.int .i64 lv) := (k0.cell 1).trans rfl
  have t2 : w3.cell? ⟨w.heap.size, 2, none⟩ = some (.int .i64 nx) := (k0.cell 2).trans rfl
  have t3 : w3.cell? ⟨w.heap.size, 3, none⟩ = some (.int .u64 nw) := (k0.cell 3).trans rfl
  have s0 : w3.cell? ⟨w.heap.size + 1, 0, none⟩ = some (.int .i64 kd) := (k1.cell 0).trans rfl
  have s1 : w3.cell? ⟨w.heap.size + 1, 1, none⟩ = some (.int .i64 a) := (k1.cell 1).trans rfl
  have s2 : w3.cell? ⟨w.heap.size + 1, 2, none⟩ = some (.int .i64 b) := (k1.cell 2).trans rfl
  have s3 : w3.cell? ⟨w.heap.size + 1, 3, none⟩ = some (.int .u64 sn) := (k1.cell 3).trans rfl
  have s4 : w3.cell? ⟨w.heap.size + 1, 4, none⟩ = some (.string tx) := (k1.cell 4).trans rfl
  have c0 : w3.cell? ⟨w.heap.size + 1 + 1, 0, none⟩ = some (.slice none 0 0) := (k2.cell 0).trans rfl
  have c1 : w3.cell? ⟨w.heap.size + 1 + 1, 1, none⟩ = some (.int .i64 0) := (k2.cell 1).trans rfl
  have c2 : w3.cell? ⟨w.heap.size + 1 + 1, 2, none⟩ = some (.int .i64 0) := (k2.cell 2).trans rfl
  have c3 : w3.cell? ⟨w.heap.size + 1 + 1, 3, none⟩ = some (.int .u64 0) := (k2.cell 3).trans rfl
  have f0 := k2.frozen 0
  have f1 := k2.frozen 1
  have f2 := k2.frozen 2
  have f3 := k2.frozen 3
  have g0 := k0.frozen 0
  have g1 := k0.frozen 1
  have g2 := k0.frozen 2
  have g3 := k0.frozen 3
  clear k0 k1 k2 hrn htn hbn
  cases rN with
  | false =>
    have hR := HAP.out
    rw [if_pos (.inl rfl)] at hR
    subst hR
    go_wp2_with fail
    have h3 := (((HK2.out.set_ 0 (.slice none 0 0)).set_ 1 (.int .i64 0)).set_ 2 (.int .i64 0)).set_ 3 (.int .u64 0)
    refine bodyPost_ret (results_row_tmp rfl _ _ (w.heap.size + 1 + 1) _ _ _ _ rfl h3 Tryd.underlying28 rfl (by rw [tr_info]; rfl)) rfl ?_
    refine tr_goal (R := (zT, _)) rfl (TrAt.zero _) ?_
    repeat (refine below_set ?_ (by omega))
    exact HB.out
  | true =>
    have hsw := HST.out w3 HT.out
    unfold valS at hsw
    dsimp only at hsw
    have HSW := Lib.hid hsw
    clear hsw HST
    go_wp2_with fail
    refine HSW.out.mono ?_
    rintro e w4 ⟨rfl, hb4⟩
    clear t0 t1 t2 t3 s0 s1 s2 s3 s4 c0 c1 c2 c3 f0 f1 f2 f3 g0 g1 g2 g3 HSW
    have k0 := HK0.out.below hb4 HK0.out.lt
    have k1 := HK1.out.below hb4 HK1.out.lt
    have k2 := HK2.out.below hb4 HK2.out.lt
    have hrn := HR.out.below hb4
    have htn := HT.out.below hb4
    have hbn := HB.out.trans (hb4.mono HB.out.size)
    have hltw4 := k2.lt
    clear HK0 HK1 HK2 HR HT HB hb4
    have HK0 := Lib.hid k0
    have HK1 := Lib.hid k1
    have HK2 := Lib.hid k2
    have HR := Lib.hid hrn
    have HT := Lib.hid htn
    have HB := Lib.hid hbn
    have t0 : w4.cell? ⟨w.heap.size, 0, none⟩ = some (.slice A n cap) := (k0.cell 0).trans rfl
    have t1 : w4.cell? ⟨w.heap.size, 1, none⟩ = some (.int .i64 lv) := (k0.cell 1).trans rfl
    have t2 : w4.cell? ⟨w.heap.size, 2, none⟩ = some (.int .i64 nx) := (k0.cell 2).trans rfl
    have t3 : w4.cell? ⟨w.heap.size, 3, none⟩ = some (.int .u64 nw) := (k0.cell 3).trans rfl
    have s0 : w4.cell? ⟨w.heap.size + 1, 0, none⟩ = some (.int .i64 kd) := (k1.cell 0).trans rfl
    have s1 : w4.cell? ⟨w.heap.size + 1, 1, none⟩ = some (.int .i64 a) := (k1.cell 1).trans rfl
    have s2 : w4.cell? ⟨w.heap.size + 1, 2, none⟩ = some (.int .i64 b) := (k1.cell 2).trans rfl
    have s3 : w4.cell? ⟨w.heap.size + 1, 3, none⟩ = some (.int .u64 sn) := (k1.cell 3).trans rfl
    have s4 : w4.cell? ⟨w.heap.size + 1, 4, none⟩ = some (.string tx) := (k1.cell 4).trans rfl
    have c0 : w4.cell? ⟨w.heap.size + 1 + 1, 0, none⟩ = some (.slice none 0 0) := (k2.cell 0).trans rfl
    have c1 : w4.cell? ⟨w.heap.size + 1 + 1, 1, none⟩ = some (.int .i64 0) := (k2.cell 1).trans rfl
    have c2 : w4.cell? ⟨w.heap.size + 1 + 1, 2, none⟩ = some (.int .i64 0) := (k2.cell 2).trans rfl
    have c3 : w4.cell? ⟨w.heap.size + 1 + 1, 3, none⟩ = some (.int .u64 0) := (k2.cell 3).trans rfl
    have f0 := k2.frozen 0
    have f1 := k2.frozen 1
    have f2 := k2.frozen 2
    have f3 := k2.frozen 3
    have g0 := k0.frozen 0
    have g1 := k0.frozen 1
    have g2 := k0.frozen 2
    have g3 := k0.frozen 3
    clear k0 k1 k2 hrn htn hbn
    cases sB with
    | false =>
      have hR := HAP.out
      rw [if_pos (.inr (.inl rfl))] at hR
      subst hR
      go_wp2_with fail
      have h3 := (((HK2.out.set_ 0 (.slice none 0 0)).set_ 1 (.int .i64 0)).set_ 2 (.int .i64 0)).set_ 3 (.int .u64 0)
      refine bodyPost_ret (results_row_tmp rfl _ _ (w.heap.size + 1 + 1) _ _ _ _ rfl h3 Tryd.underlying28 rfl (by rw [tr_info]; rfl)) rfl ?_
      refine tr_goal (R := (zT, _)) rfl (TrAt.zero _) ?_
      repeat (refine below_set ?_ (by omega))
      exact HB.out
    | true =>
      obtain ⟨ha0, ha1, hb0⟩ := HSB.out (by simp)
      have hpl := HPL.out (by simp)
      have HPL2 := Lib.hid hpl
      have HAQ := Lib.hid (show R = if kd = 8 ∨ (kd = 7 ∧ sn < nw) then (zT, 1)
        else if kd = 1 then makeN ⟨l, lv, nx, nw⟩ ⟨kd, a, b, sn, tx⟩ else if kd = 4 then moveN ⟨l, lv, nx, nw⟩ a b else if kd = 6 ∧ oa = false then (zT, 4) else if kd = 6 ∧ 0 < b ∧ b < nx then (zT, 1)
        else if kd = 6 then (⟨l, a, max nx b, nw⟩, 0) else if kd = 7 then (⟨l, lv, nx, sn⟩, 0) else changeN ⟨l, lv, nx, nw⟩ ⟨kd, a, b, sn, tx⟩ by rw [HAP.out]; simp)
      clear hpl HPL HSB HAP
      by_cases h8 : kd = 8
      · subst h8
        have hR : R = (zT, 1) := by rw [HAQ.out]; simp
        clear HAQ
        subst hR
        go_wp2_with fail
        have h3 := (((HK2.out.set_ 0 (.slice none 0 0)).set_ 1 (.int .i64 0)).set_ 2 (.int .i64 0)).set_ 3 (.int .u64 0)
        refine bodyPost_ret (results_row_tmp rfl _ _ (w.heap.size + 1 + 1) _ _ _ _ rfl h3 Tryd.underlying28 rfl (by rw [tr_info]; rfl)) rfl ?_
        refine tr_goal (R := (zT, _)) rfl (TrAt.zero _) ?_
        repeat (refine below_set ?_ (by omega))
        exact HB.out
      by_cases h7 : kd = 7
      · subst h7
        by_cases hs : sn < nw
        · have hR : R = (zT, 1) := by rw [HAQ.out]; simp [hs]
          clear HAQ
          subst hR
          go_wp2_with fail
          have h3 := (((HK2.out.set_ 0 (.slice none 0 0)).set_ 1 (.int .i64 0)).set_ 2 (.int .i64 0)).set_ 3 (.int .u64 0)
          refine bodyPost_ret (results_row_tmp rfl _ _ (w.heap.size + 1 + 1) _ _ _ _ rfl h3 Tryd.underlying28 rfl (by rw [tr_info]; rfl)) rfl ?_
          refine tr_goal (R := (zT, _)) rfl (TrAt.zero _) ?_
          repeat (refine below_set ?_ (by omega))
          exact HB.out
        · have HRR := Lib.hid (show R = (⟨l, lv, nx, sn⟩, 0) by rw [HAQ.out]; simp [hs])
          clear HAQ HMA HMO HCH
          go_upto_region 17 with fail
          have k0 := (HK0.out.set_ 3 (.int .u64 sn))
          have k2 := (HK2.out.far (p := ⟨w.heap.size, 3, none⟩) (by show w.heap.size + 1 + 1 ≠ w.heap.size; omega) (.int .u64 sn))
          have hb6 := (HB.out.setCell (p := ⟨w.heap.size, 3, none⟩) (Nat.le_refl _) (.int .u64 sn))
          have hn6 := (HR.out.setB HK0.out (by decide) 3 (.int .u64 sn))
          clear t0 t1 t2 t3 s0 s1 s2 s3 s4 c0 c1 c2 c3 f0 f1 f2 f3 g0 g1 g2 g3 HK0 HK1 HK2 HR HB
          generalize (w4.setCell ⟨w.heap.size, 3, none⟩ (.int .u64 sn)) = w6 at k0 k2 hb6 hn6 ⊢
          have t0 : w6.cell? ⟨w.heap.size, 0, none⟩ = some (.slice A n cap) := (k0.cell 0).trans rfl
          have t1 : w6.cell? ⟨w.heap.size, 1, none⟩ = some (.int .i64 lv) := (k0.cell 1).trans rfl
          have t2 : w6.cell? ⟨w.heap.size, 2, none⟩ = some (.int .i64 nx) := (k0.cell 2).trans rfl
          have t3 : w6.cell? ⟨w.heap.size, 3, none⟩ = some (.int .u64 sn) := (k0.cell 3).trans rfl
          have c0 : w6.cell? ⟨w.heap.size + 1 + 1, 0, none⟩ = some (.slice none 0 0) := (k2.cell 0).trans rfl
          have c1 : w6.cell? ⟨w.heap.size + 1 + 1, 1, none⟩ = some (.int .i64 0) := (k2.cell 1).trans rfl
          have c2 : w6.cell? ⟨w.heap.size + 1 + 1, 2, none⟩ = some (.int .i64 0) := (k2.cell 2).trans rfl
          have c3 : w6.cell? ⟨w.heap.size + 1 + 1, 3, none⟩ = some (.int .u64 0) := (k2.cell 3).trans rfl
          have f0 := k2.frozen 0
          have f1 := k2.frozen 1
          have f2 := k2.frozen 2
          have f3 := k2.frozen 3
          have HK26 := Lib.hid k2
          have HB6 := Lib.hid hb6
          have HN6 := Lib.hid hn6
          clear k0 k2 hb6 hn6
          go_wp2_with fail
          have h3 := (((HK26.out.set_ 0 (.slice A n cap)).set_ 1 (.int .i64 lv)).set_ 2 (.int .i64 nx)).set_ 3 (.int .u64 sn)
          refine bodyPost_ret (results_row_tmp rfl _ _ (w.heap.size + 1 + 1) _ _ _ _ rfl h3 Tryd.underlying28 rfl (by rw [tr_info]; rfl)) rfl ?_
          refine tr_goal (congrArg Prod.snd HRR.out).symm ?_ ?_
          · rw [HRR.out]
            refine ⟨A, cap, ?_, ?_, ?_⟩
            · dsimp only; rw [HN.out]; rfl
            · dsimp only; rw [HN.out]; exact HCP.out
            · exact HN6.out.set4 HK26.out (by decide) _ _ _ _
          · repeat (refine below_set ?_ (by omega))
            exact HB6.out
      by_cases k1 : kd = 1
      · subst k1
        have hR : R = makeN ⟨l, lv, nx, nw⟩ ⟨1, a, b, sn, tx⟩ := by rw [HAQ.out]; simp
        have HWC := Lib.hid (HMA.out w4 HR.out ha1 ha0)
        clear HAQ HMA HMO HCH
        have HRH := Lib.hid hR
        clear hR
        go_wp2_with fail
        have hR := HRH.out
        refine HWC.out.mono ?_
        rintro e w5 ⟨v5, rfl, ht5, hb5⟩
        have k2 := HK2.out.below hb5 HK2.out.lt
        have HB5 := Lib.hid (HB.out.trans (hb5.mono HB.out.size))
        obtain ⟨A5, cp5, rfl, hc5, hn5⟩ := ht5
        generalize makeN ⟨l, lv, nx, nw⟩ ⟨1, a, b, sn, tx⟩ = Q at hc5 hn5 hR ⊢
        obtain ⟨⟨ql, q1, q2, q3⟩, qe⟩ := Q
        dsimp only at hc5 hn5 ⊢
        obtain ⟨qn, hqn⟩ : ∃ qn, ql.length = qn := ⟨_, rfl⟩
        rw [hqn] at hc5 ⊢
        have HQN := Lib.hid hqn
        have HC5 := Lib.hid hc5
        have HN5 := Lib.hid hn5
        have HRR := Lib.hid hR
        clear t0 t1 t2 t3 s0 s1 s2 s3 s4 c0 c1 c2 c3 f0 f1 f2 f3 g0 g1 g2 g3 hqn hc5 hn5 hR hb5
        have c0 : w5.cell? ⟨w.heap.size + 1 + 1, 0, none⟩ = some (.slice none 0 0) := (k2.cell 0).trans rfl
        have c1 : w5.cell? ⟨w.heap.size + 1 + 1, 1, none⟩ = some (.int .i64 0) := (k2.cell 1).trans rfl
        have c2 : w5.cell? ⟨w.heap.size + 1 + 1, 2, none⟩ = some (.int .i64 0) := (k2.cell 2).trans rfl
        have c3 : w5.cell? ⟨w.heap.size + 1 + 1, 3, none⟩ = some (.int .u64 0) := (k2.cell 3).trans rfl
        have f0 := k2.frozen 0
        have f1 := k2.frozen 1
        have f2 := k2.frozen 2
        have f3 := k2.frozen 3
        have HK25 := Lib.hid k2
        clear k2 HB HK0 HK1 HK2 HR HWC
        go_wp2_with fail
        have h3 := (((HK25.out.set_ 0 (.slice A5 qn cp5)).set_ 1 (.int .i64 q1)).set_ 2 (.int .i64 q2)).set_ 3 (.int .u64 q3)
        refine bodyPost_ret (results_row_tmp rfl _ _ (w.heap.size + 1 + 1) _ _ _ _ rfl h3 Tryd.underlying28 rfl (by rw [tr_info]; rfl)) rfl ?_
        refine tr_goal (congrArg Prod.snd HRR.out).symm ?_ ?_
        · rw [HRR.out]
          refine ⟨A5, cp5, ?_, ?_, ?_⟩
          · dsimp only; rw [HQN.out]; rfl
          · dsimp only; rw [HQN.out]; exact HC5.out
          · exact HN5.out.set4 HK25.out (by decide) _ _ _ _
        · repeat (refine below_set ?_ (by omega))
          exact HB5.out
      by_cases k4 : kd = 4
      · subst k4
        have hR : R = moveN ⟨l, lv, nx, nw⟩ a b := by rw [HAQ.out]; simp
        have HWC := Lib.hid (HMO.out w4 HR.out (by rw [HN.out] at HPL2; exact HPL2.out))
        clear HAQ HMA HMO HCH
        have HRH := Lib.hid hR
        clear hR
        go_wp2_with fail
        have hR := HRH.out
        refine HWC.out.mono ?_
        rintro e w5 ⟨v5, rfl, ht5, hb5⟩
        have k2 := HK2.out.below hb5 HK2.out.lt
        have HB5 := Lib.hid (HB.out.trans (hb5.mono HB.out.size))
        obtain ⟨A5, cp5, rfl, hc5, hn5⟩ := ht5
        generalize moveN ⟨l, lv, nx, nw⟩ a b = Q at hc5 hn5 hR ⊢
        obtain ⟨⟨ql, q1, q2, q3⟩, qe⟩ := Q
        dsimp only at hc5 hn5 ⊢
        obtain ⟨qn, hqn⟩ : ∃ qn, ql.length = qn := ⟨_, rfl⟩
        rw [hqn] at hc5 ⊢
        have HQN := Lib.hid hqn
        have HC5 := Lib.hid hc5
        have HN5 := Lib.hid hn5
        have HRR := Lib.hid hR
        clear t0 t1 t2 t3 s0 s1 s2 s3 s4 c0 c1 c2 c3 f0 f1 f2 f3 g0 g1 g2 g3 hqn hc5 hn5 hR hb5
        have c0 : w5.cell? ⟨w.heap.size + 1 + 1, 0, none⟩ = some (.slice none 0 0) := (k2.cell 0).trans rfl
        have c1 : w5.cell? ⟨w.heap.size + 1 + 1, 1, none⟩ = some (.int .i64 0) := (k2.cell 1).trans rfl
        have c2 : w5.cell? ⟨w.heap.size + 1 + 1, 2, none⟩ = some (.int .i64 0) := (k2.cell 2).trans rfl
        have c3 : w5.cell? ⟨w.heap.size + 1 + 1, 3, none⟩ = some (.int .u64 0) := (k2.cell 3).trans rfl
        have f0 := k2.frozen 0
        have f1 := k2.frozen 1
        have f2 := k2.frozen 2
        have f3 := k2.frozen 3
        have HK25 := Lib.hid k2
        clear k2 HB HK0 HK1 HK2 HR HWC
        go_wp2_with fail
        have h3 := (((HK25.out.set_ 0 (.slice A5 qn cp5)).set_ 1 (.int .i64 q1)).set_ 2 (.int .i64 q2)).set_ 3 (.int .u64 q3)
        refine bodyPost_ret (results_row_tmp rfl _ _ (w.heap.size + 1 + 1) _ _ _ _ rfl h3 Tryd.underlying28 rfl (by rw [tr_info]; rfl)) rfl ?_
        refine tr_goal (congrArg Prod.snd HRR.out).symm ?_ ?_
        · rw [HRR.out]
          refine ⟨A5, cp5, ?_, ?_, ?_⟩
          · dsimp only; rw [HQN.out]; rfl
          · dsimp only; rw [HQN.out]; exact HC5.out
          · exact HN5.out.set4 HK25.out (by decide) _ _ _ _
        · repeat (refine below_set ?_ (by omega))
          exact HB5.out
      by_cases k6 : kd = 6
      · subst k6
        cases oa with
        | false =>
          have hR : R = (zT, 4) := by rw [HAQ.out]; simp
          clear HAQ
          subst hR
          go_wp2_with fail
          have h3 := (((HK2.out.set_ 0 (.slice none 0 0)).set_ 1 (.int .i64 0)).set_ 2 (.int .i64 0)).set_ 3 (.int .u64 0)
          refine bodyPost_ret (results_row_tmp rfl _ _ (w.heap.size + 1 + 1) _ _ _ _ rfl h3 Tryd.underlying28 rfl (by rw [tr_info]; rfl)) rfl ?_
          refine tr_goal (R := (zT, _)) rfl (TrAt.zero _) ?_
          repeat (refine below_set ?_ (by omega))
          exact HB.out
        | true =>
          by_cases hb1 : 0 < b ∧ b < nx
          · have hR : R = (zT, 1) := by rw [HAQ.out]; simp [hb1]
            obtain ⟨hb2, hb3⟩ := hb1
            clear HAQ
            subst hR
            go_wp2_with fail
            have h3 := (((HK2.out.set_ 0 (.slice none 0 0)).set_ 1 (.int .i64 0)).set_ 2 (.int .i64 0)).set_ 3 (.int .u64 0)
            refine bodyPost_ret (results_row_tmp rfl _ _ (w.heap.size + 1 + 1) _ _ _ _ rfl h3 Tryd.underlying28 rfl (by rw [tr_info]; rfl)) rfl ?_
            refine tr_goal (R := (zT, _)) rfl (TrAt.zero _) ?_
            repeat (refine below_set ?_ (by omega))
            exact HB.out
          · have HRR := Lib.hid (show R = (⟨l, a, max nx b, nw⟩, 0) by rw [HAQ.out]; simp [hb1])
            clear HAQ HMA HMO HCH
            go_upto_region 10 with fail
            go_cut [72] from 73 (fun v72 wx => v72 = .bool false ∧ wx = w4)
            case first =>
              by_cases hb2 : 0 < b
              · have hb3 : ¬ b < nx := fun h => hb1 ⟨hb2, h⟩
                clear hb1
                go_wp2_with fail
                go_meet
                exact ⟨rfl, rfl⟩
              · clear hb1
                go_wp2_with fail
                go_meet
                exact ⟨rfl, rfl⟩
            case rest =>
              obtain ⟨rfl, rfl⟩ := hcut
              clear hb1
              go_upto_region 13 with fail
              go_cut [] from 93 (fun wx => wx = ((wc.setCell ⟨w.heap.size, 1, none⟩ (.int .i64 a)).setCell ⟨w.heap.size, 2, none⟩ (.int .i64 (max nx b))).drew)
              case first =>
                have hks : ∀ (w' : World) (j : Nat) (v : Value), (w'.cell? ⟨w.heap.size + 1, 1, none⟩ = some (.int .i64 a) ∧ w'.cell? ⟨w.heap.size + 1, 2, none⟩ = some (.int .i64 b)) → (w'.setCell ⟨w.heap.size, j, none⟩ v).cell? ⟨w.heap.size + 1, 1, none⟩ = some (.int .i64 a) ∧ (w'.setCell ⟨w.heap.size, j, none⟩ v).cell? ⟨w.heap.size + 1, 2, none⟩ = some (.int .i64 b) := by
                  intro w' j v hs
                  have c : ∀ (i : Nat), (w'.setCell ⟨w.heap.size, j, none⟩ v).cell? ⟨w.heap.size + 1, i, none⟩ = w'.cell? ⟨w.heap.size + 1, i, none⟩ := fun i => by
                    have := Below.heap_setCell w' ⟨w.heap.size, j, none⟩ v (w.heap.size + 1) (by show w.heap.size + 1 ≠ w.heap.size; omega)
                    simp only [World.cell?, this]
                  exact ⟨(c _).trans hs.1, (c _).trans hs.2⟩
                have hk0 : (fun w' => w'.cell? ⟨w.heap.size + 1, 1, none⟩ = some (.int .i64 a) ∧ w'.cell? ⟨w.heap.size + 1, 2, none⟩ = some (.int .i64 b)) wc.drew := ⟨s1, s2⟩
                have HK00 := Lib.hid hk0
                have HKS := Lib.hid hks
                clear hks hk0
                rw [show Op.load 3 (Operand.tmp 95) = ldN from rfl]
                go_region_held3 (fun w' => w'.cell? ⟨w.heap.size + 1, 1, none⟩ = some (.int .i64 a) ∧ w'.cell? ⟨w.heap.size + 1, 2, none⟩ = some (.int .i64 b)) (first | exact HK00.out | exact HKS.out _ _ _ HK00.out | exact HKS.out _ _ _ (HKS.out _ _ _ HK00.out) | fail) (fail)
                all_goals (go_wp2_with fail; go_meet)
                all_goals exact rfl
              case rest =>
               subst hcut
               have k0 := Blk.drew ((HK0.out.set_ 1 (.int .i64 a)).set_ 2 (.int .i64 (max nx b)))
               have k2 := Blk.drew ((HK2.out.far (p := ⟨w.heap.size, 1, none⟩) (by show w.heap.size + 1 + 1 ≠ w.heap.size; omega) (.int .i64 a)).far (p := ⟨w.heap.size, 2, none⟩) (by show w.heap.size + 1 + 1 ≠ w.heap.size; omega) (.int .i64 (max nx b)))
               have hb6 := below_drew1 ((HB.out.setCell (p := ⟨w.heap.size, 1, none⟩) (Nat.le_refl _) (.int .i64 a)).setCell (p := ⟨w.heap.size, 2, none⟩) (Nat.le_refl _) (.int .i64 (max nx b)))
               have hn6 := NodesAt.drew ((HR.out.setB HK0.out (by decide) 1 (.int .i64 a)).setB (HK0.out.set_ 1 (.int .i64 a)) (by decide) 2 (.int .i64 (max nx b)))
               clear t0 t1 t2 t3 s0 s1 s2 s3 s4 c0 c1 c2 c3 f0 f1 f2 f3 g0 g1 g2 g3 HK0 HK1 HK2 HR HB
               generalize ((wc.setCell ⟨w.heap.size, 1, none⟩ (.int .i64 a)).setCell ⟨w.heap.size, 2, none⟩ (.int .i64 (max nx b))).drew = w6 at k0 k2 hb6 hn6 ⊢
               have t0 : w6.cell? ⟨w.heap.size, 0, none⟩ = some (.slice A n cap) := (k0.cell 0).trans rfl
               have t1 : w6.cell? ⟨w.heap.size, 1, none⟩ = some (.int .i64 a) := (k0.cell 1).trans rfl
               have t2 : w6.cell? ⟨w.heap.size, 2, none⟩ = some (.int .i64 (max nx b)) := (k0.cell 2).trans rfl
               have t3 : w6.cell? ⟨w.heap.size, 3, none⟩ = some (.int .u64 nw) := (k0.cell 3).trans rfl
               have c0 : w6.cell? ⟨w.heap.size + 1 + 1, 0, none⟩ = some (.slice none 0 0) := (k2.cell 0).trans rfl
               have c1 : w6.cell? ⟨w.heap.size + 1 + 1, 1, none⟩ = some (.int .i64 0) := (k2.cell 1).trans rfl
               have c2 : w6.cell? ⟨w.heap.size + 1 + 1, 2, none⟩ = some (.int .i64 0) := (k2.cell 2).trans rfl
               have c3 : w6.cell? ⟨w.heap.size + 1 + 1, 3, none⟩ = some (.int .u64 0) := (k2.cell 3).trans rfl
               have f0 := k2.frozen 0
               have f1 := k2.frozen 1
               have f2 := k2.frozen 2
               have f3 := k2.frozen 3
               have HK26 := Lib.hid k2
               have HB6 := Lib.hid hb6
               have HN6 := Lib.hid hn6
               clear k0 k2 hb6 hn6
               go_wp2_with fail
               have h3 := (((HK26.out.set_ 0 (.slice A n cap)).set_ 1 (.int .i64 a)).set_ 2 (.int .i64 (max nx b))).set_ 3 (.int .u64 nw)
               refine bodyPost_ret (results_row_tmp rfl _ _ (w.heap.size + 1 + 1) _ _ _ _ rfl h3 Tryd.underlying28 rfl (by rw [tr_info]; rfl)) rfl ?_
               refine tr_goal (congrArg Prod.snd HRR.out).symm ?_ ?_
               · rw [HRR.out]
                 refine ⟨A, cap, ?_, ?_, ?_⟩
                 · dsimp only; rw [HN.out]; rfl
                 · dsimp only; rw [HN.out]; exact HCP.out
                 · exact HN6.out.set4 HK26.out (by decide) _ _ _ _
               · repeat (refine below_set ?_ (by omega))
                 exact HB6.out
      have hR : R = changeN ⟨l, lv, nx, nw⟩ ⟨kd, a, b, sn, tx⟩ := by rw [HAQ.out]; simp [h8, h7, k1, k4, k6]
      have HWC := Lib.hid (HCH.out w4 HR.out (by rw [HN.out] at HPL2; exact HPL2.out))
      clear HAQ HMA HMO HCH
      have HRH := Lib.hid hR
      clear hR
      go_wp2_with fail
      have hR := HRH.out
      refine HWC.out.mono ?_
      rintro e w5 ⟨v5, rfl, ht5, hb5⟩
      have k2 := HK2.out.below hb5 HK2.out.lt
      have HB5 := Lib.hid (HB.out.trans (hb5.mono HB.out.size))
      obtain ⟨A5, cp5, rfl, hc5, hn5⟩ := ht5
      generalize changeN ⟨l, lv, nx, nw⟩ ⟨kd, a, b, sn, tx⟩ = Q at hc5 hn5 hR ⊢
      obtain ⟨⟨ql, q1, q2, q3⟩, qe⟩ := Q
      dsimp only at hc5 hn5 ⊢
      obtain ⟨qn, hqn⟩ : ∃ qn, ql.length = qn := ⟨_, rfl⟩
      rw [hqn] at hc5 ⊢
      have HQN := Lib.hid hqn
      have HC5 := Lib.hid hc5
      have HN5 := Lib.hid hn5
      have HRR := Lib.hid hR
      clear t0 t1 t2 t3 s0 s1 s2 s3 s4 c0 c1 c2 c3 f0 f1 f2 f3 g0 g1 g2 g3 hqn hc5 hn5 hR hb5
      have c0 : w5.cell? ⟨w.heap.size + 1 + 1, 0, none⟩ = some (.slice none 0 0) := (k2.cell 0).trans rfl
      have c1 : w5.cell? ⟨w.heap.size + 1 + 1, 1, none⟩ = some (.int .i64 0) := (k2.cell 1).trans rfl
      have c2 : w5.cell? ⟨w.heap.size + 1 + 1, 2, none⟩ = some (.int .i64 0) := (k2.cell 2).trans rfl
      have c3 : w5.cell? ⟨w.heap.size + 1 + 1, 3, none⟩ = some (.int .u64 0) := (k2.cell 3).trans rfl
      have f0 := k2.frozen 0
      have f1 := k2.frozen 1
      have f2 := k2.frozen 2
      have f3 := k2.frozen 3
      have HK25 := Lib.hid k2
      clear k2 HB HK0 HK1 HK2 HR HWC
      go_wp2_with fail
      have h3 := (((HK25.out.set_ 0 (.slice A5 qn cp5)).set_ 1 (.int .i64 q1)).set_ 2 (.int .i64 q2)).set_ 3 (.int .u64 q3)
      refine bodyPost_ret (results_row_tmp rfl _ _ (w.heap.size + 1 + 1) _ _ _ _ rfl h3 Tryd.underlying28 rfl (by rw [tr_info]; rfl)) rfl ?_
      refine tr_goal (congrArg Prod.snd HRR.out).symm ?_ ?_
      · rw [HRR.out]
        refine ⟨A5, cp5, ?_, ?_, ?_⟩
        · dsimp only; rw [HQN.out]; rfl
        · dsimp only; rw [HQN.out]; exact HC5.out
        · exact HN5.out.set4 HK25.out (by decide) _ _ _ _
      · repeat (refine below_set ?_ (by omega))
        exact HB5.out
end Go.Proofs.YtfdhehjfbcddgaaDoor.Pr
