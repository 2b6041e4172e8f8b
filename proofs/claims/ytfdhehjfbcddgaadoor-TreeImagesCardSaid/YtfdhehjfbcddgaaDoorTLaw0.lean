/- Words of layer 14's laws: acts, what is planned for one, a tree behind steps, behind acts; pick, right, link walked. Conditions of the walks: numbers are numbers of Go, the acts are not more than a million. -/
import Derived.Test.YtfdhehjfbcddgaaDoorTPlan
import Derived.Test.YtfdhehjfbcddgaaDoorTDel
namespace Go.Proofs.YtfdhehjfbcddgaaDoor.Pr
open Go.RowKit Go.Proofs.YtfdhehjfbcddgaaDoorW.PrintWords Go.Proofs.YtfdhehjfbcddgaaDoorW.PrintLast Go.Proofs.YtfdhehjfbcddgaaDoor
set_option linter.unusedVariables false
/-- an act -/
structure Ac where
  op : Int
  id : Int
  n : Int
  name : ByteArray
def encA (a : Ac) : List Value := [.int .i64 a.op, .int .i64 a.id, .int .i64 a.n, .string a.name]
theorem encA_len (a : Ac) : (encA a).length = 4 := rfl
def valA (a : Ac) : Value := .agg #[.int .i64 a.op, .int .i64 a.id, .int .i64 a.n, .string a.name]
def zA : Ac := ⟨0, 0, 0, ⟨#[]⟩⟩
def I64 (n : Int) : Prop := -9223372036854775808 ≤ n ∧ n ≤ 9223372036854775807
def AcOk (a : Ac) : Prop := I64 a.op ∧ I64 a.id ∧ I64 a.n
/-- a row of acts that is read (whatever block it lies in) -/
def ActsAt (w : World) (A : Option Addr) (l : List Ac) : Prop :=
  0 < l.length → ∃ b off, A = some ⟨b, off, none⟩ ∧ b < w.heap.size ∧ ∀ j u, (flatE encA l)[j]? = some u → w.cell? ⟨b, off + j, none⟩ = some u
theorem ActsAt.below {w w' : World} {A : Option Addr} {l : List Ac} (h : ActsAt w A l) (hb : Below w.heap.size w w') : ActsAt w' A l := by
  intro hp
  obtain ⟨b, off, ha, ho, hc⟩ := h hp
  exact ⟨b, off, ha, Nat.lt_of_lt_of_le ho hb.size, fun j u hu => (hb.cell (p := ⟨b, off + j, none⟩) ho).trans (hc j u hu)⟩
def pickN (c n : Int) : Int := (if c < 0 then -(c + 1) else c) % n
def rightA (l : List Ac) : Bool := decide (l.length ≤ 60) && l.all fun a => decide (a.name.size ≤ 120)
def planN (t : Tr) (a : Ac) : Pl × Int :=
  if pickN a.op 12 ≤ 3 then snapN t a.name
  else if pickN a.op 12 ≤ 5 then revertN t a.id
  else if pickN a.op 12 ≤ 8 then deleteN t a.id
  else if pickN a.op 12 = 9 then (⟨[], [⟨5, max a.id 0, pickN a.n 2, 0, ⟨#[]⟩⟩]⟩, 0)
  else if pickN a.op 12 = 10 then consN t a.n
  else (⟨[], [⟨7, 0, 0, IntKind.u64.wrap (t.nw + pickN a.n 9), ⟨#[]⟩⟩]⟩, 0)
def doneN : Tr → List St → Tr × Int
  | t, [] => (t, 0)
  | t, s :: l => if (applyN t s).2 = 0 then doneN (applyN t s).1 l else (t, (applyN t s).2)
def growN (t : Tr) (a : Ac) : Tr := if (planN t a).2 = 0 ∧ (doneN t (planN t a).1.ss).2 = 0 then (doneN t (planN t a).1.ss).1 else t
def grownN (l : List Ac) : Tr := l.foldl growN newT
theorem pickN_range (c n : Int) (h : 0 < n) : 0 ≤ pickN c n ∧ pickN c n < n := by
  unfold pickN
  exact ⟨Int.emod_nonneg _ (by omega), Int.emod_lt_of_pos _ h⟩
set_option maxRecDepth 100000 in
theorem pick_any (c n : Int) (w : World) (hc : I64 c) (hn : 0 < n) (hn2 : n < 1000) : Calls Tryd.prog 19 #[.int .i64 c, .int .i64 n] w fun e w' => e = .returned (.int .i64 (pickN c n)) ∧ w' = w := by
  obtain ⟨h1, h2⟩ := hc
  obtain ⟨P, hP⟩ : ∃ P, pickN c n = P := ⟨_, rfl⟩
  rw [hP]
  unfold pickN at hP
  by_cases hs : c < 0
  · rw [if_pos hs] at hP
    obtain ⟨d, hd⟩ : ∃ d, d = -(c + 1) := ⟨_, rfl⟩
    have hd0 : 0 ≤ d := by omega
    rw [← hd] at hP
    have hw1 : IntKind.i64.wrap (c + 1) = c + 1 := IntWalk.i64_in _ (by omega)
    have hw2 : IntKind.i64.wrap (-(c + 1)) = d := by rw [← hd]; exact IntWalk.i64_in _ (by omega)
    have hr : d.tmod n = P := by rw [Int.tmod_eq_emod_of_nonneg hd0, hP]
    have hP2 : 0 ≤ P ∧ P < n := by rw [← hP]; exact ⟨Int.emod_nonneg _ (by omega), Int.emod_lt_of_pos _ hn⟩
    have hw3 : IntKind.i64.wrap P = P := IntWalk.i64_in _ (by omega)
    have hcb : decide (c < 0) = true := decide_eq_true hs
    have hn0 : n ≠ 0 := by omega
    have hn0b : (n == 0) = false := by rw [beq_eq_false_iff_ne]; exact hn0
    have H1 := Lib.hid hP2
    clear hP hd hP2
    go_enter Tryd.func19, Tryd.ntmps19
    go_wp2_with fail
    go_ret
    exact ⟨rfl, rfl⟩
  · rw [if_neg hs] at hP
    have hr : c.tmod n = P := by rw [Int.tmod_eq_emod_of_nonneg (by omega), hP]
    have hP2 : 0 ≤ P ∧ P < n := by rw [← hP]; exact ⟨Int.emod_nonneg _ (by omega), Int.emod_lt_of_pos _ hn⟩
    have hw3 : IntKind.i64.wrap P = P := IntWalk.i64_in _ (by omega)
    have hn0 : n ≠ 0 := by omega
    have hn0b : (n == 0) = false := by rw [beq_eq_false_iff_ne]; exact hn0
    have H1 := Lib.hid hP2
    clear hP hP2
    go_enter Tryd.func19, Tryd.ntmps19
    go_wp2_with fail
    go_ret
    exact ⟨rfl, rfl⟩
theorem acts_get {w : World} {b off : Nat} {l : List Ac} (h : ∀ j u, (flatE encA l)[j]? = some u → w.cell? ⟨b, off + j, none⟩ = some u) (i : Nat) (hi : i < l.length) :
    w.cell? ⟨b, off + i * 4, none⟩ = some (.int .i64 l[i].op) ∧ w.cell? ⟨b, off + i * 4 + 1, none⟩ = some (.int .i64 l[i].id) ∧ w.cell? ⟨b, off + i * 4 + 2, none⟩ = some (.int .i64 l[i].n) ∧ w.cell? ⟨b, off + i * 4 + 3, none⟩ = some (.string l[i].name) := by
  have g := fun (j : Nat) (hj : j < 4) => flatE_get encA_len l i hi j hj
  refine ⟨h (i * 4) _ ((g 0 (by decide)).trans rfl), ?_, ?_, ?_⟩
  · rw [Nat.add_assoc]; exact h _ _ ((g 1 (by decide)).trans rfl)
  · rw [Nat.add_assoc]; exact h _ _ ((g 2 (by decide)).trans rfl)
  · rw [Nat.add_assoc]; exact h _ _ ((g 3 (by decide)).trans rfl)
set_option maxRecDepth 100000 in
theorem rightA_any (A : Option Addr) (cap : Nat) (l : List Ac) (w : World) (hl : l.length ≤ 9223372036854775807) (hr : ActsAt w A l) (hnm : ∀ x ∈ l, x.name.size ≤ 9223372036854775807) :
    Calls Tryd.prog 10 #[.slice A l.length cap] w fun e w' => e = .returned (.bool (rightA l)) ∧ Below w.heap.size w w' := by
  obtain ⟨n, hn⟩ : ∃ n, l.length = n := ⟨_, rfl⟩
  obtain ⟨R, hR⟩ : ∃ R, rightA l = R := ⟨_, rfl⟩
  have hR2 : R = (decide (n ≤ 60) && l.all fun a => decide (a.name.size ≤ 120)) := by rw [← hR, ← hn]; rfl
  have HN := Lib.hid hn
  rw [hR, hn]
  rw [hn] at hl
  clear hR hn
  by_cases h60 : n ≤ 60
  · have HR2 := Lib.hid (show R = (l.drop 0).all fun a => decide (a.name.size ≤ 120) by rw [hR2, decide_eq_true h60]; rfl)
    clear hR2
    have HRW := Lib.hid hr
    have HNM := Lib.hid hnm
    clear hr hnm
    go_enter Tryd.func10, Tryd.ntmps10
    go_wp2_with fail
    go_loopw [3] (fun v3 wr => ∃ (j : Nat), j ≤ n ∧ v3 = .int .i64 (j : Int) ∧ Hid (R = (l.drop j).all fun a => decide (a.name.size ≤ 120)) ∧ wr = w) (fun v3 _ => n - (intOf v3).toNat)
    case atStart => exact ⟨0, by omega, rfl, HR2, rfl⟩
    case round =>
      clear HR2
      obtain ⟨j, hj, rfl, hd, rfl⟩ := hrel
      by_cases hlt : j < n
      · have hjl : j < l.length := by rw [HN.out]; exact hlt
        obtain ⟨b2, off, rfl, hob, hcell⟩ := HRW.out (by omega)
        obtain ⟨_, _, _, d3⟩ := acts_get hcell j hjl
        have hds := hd.out
        rw [List.drop_eq_getElem_cons hjl, List.all_cons] at hds
        have hsz := HNM.out _ (List.getElem_mem hjl)
        obtain ⟨nm, hnm⟩ : ∃ nm, (l[j]'hjl).name = nm := ⟨_, rfl⟩
        rw [hnm] at d3 hds hsz
        have HDS := Lib.hid hds
        clear hcell hds hd hob hnm
        by_cases h120 : nm.size ≤ 120
        · have HD2 := Lib.hid (show R = (l.drop (j + 1)).all fun a => decide (a.name.size ≤ 120) by rw [HDS.out, decide_eq_true h120]; rfl)
          clear HDS
          go_wp2_with fail
          go_roundw
          case rel => exact ⟨j + 1, by omega, by go_num, HD2, by trivial⟩
          case measure => simp [intOf]; omega
        · have HRF := Lib.hid (show R = false by rw [HDS.out, decide_eq_false h120]; rfl)
          clear HDS
          go_wp2_with fail
          rw [HRF.out]
          go_ret
          exact ⟨rfl, Below.refl _ _⟩
      · obtain rfl : j = n := by omega
        have HRF := Lib.hid (show R = true by rw [hd.out, ← HN.out, List.drop_length]; rfl)
        clear hd
        go_wp2_with fail
        rw [HRF.out]
        go_ret
        exact ⟨rfl, Below.refl _ _⟩
  · have HRF := Lib.hid (show R = false by rw [hR2, decide_eq_false h60]; rfl)
    clear hR2 hr hnm
    go_enter Tryd.func10, Tryd.ntmps10
    go_wp2_with fail
    rw [HRF.out]
    go_ret
    exact ⟨rfl, Below.refl _ _⟩
/-- a link is as the reference's -/
theorem link_info : (Tryd.prog.info? 85).map (·.size) = some 6 := by kernel_rfl
set_option maxRecDepth 100000 in
theorem link_any (x : Nd) (w : World) : Calls Tryd.prog 37 #[valN x] w fun e w' => e = .returned (valN x) ∧ Below w.heap.size w w' := by
  obtain ⟨x0, x1, x2, x3, x4, x5⟩ := x
  unfold valN
  dsimp only
  go_enter Tryd.func37, Tryd.ntmps37
  go_upto_region 1 with fail
  have hb : Below w.heap.size w ((w.alloc (.cells #[.int .i64 x0, .int .i64 x1, .string x2, .int .u64 x3, .bool x4, .bool x5] 42)).alloc (.cells #[.int .i64 0, .int .i64 0, .string ⟨#[]⟩, .int .u64 0, .bool false, .bool false] 85)) := ((Below.refl _ _).alloc (Nat.le_refl _) _).alloc (by simp) _
  have hx := (Blk.new w 42 #[.int .i64 x0, .int .i64 x1, .string x2, .int .u64 x3, .bool x4, .bool x5]).alloc (.cells #[.int .i64 0, .int .i64 0, .string ⟨#[]⟩, .int .u64 0, .bool false, .bool false] 85)
  have hy := blk_new1 w (.cells #[.int .i64 x0, .int .i64 x1, .string x2, .int .u64 x3, .bool x4, .bool x5] 42) 85 #[.int .i64 0, .int .i64 0, .string ⟨#[]⟩, .int .u64 0, .bool false, .bool false]
  generalize ((w.alloc (.cells #[.int .i64 x0, .int .i64 x1, .string x2, .int .u64 x3, .bool x4, .bool x5] 42)).alloc (.cells #[.int .i64 0, .int .i64 0, .string ⟨#[]⟩, .int .u64 0, .bool false, .bool false] 85)) = w1 at hb hx hy ⊢
  have e0 : w1.cell? ⟨w.heap.size, 0, none⟩ = some (.int .i64 x0) := (hx.cell 0).trans rfl
  have e1 : w1.cell? ⟨w.heap.size, 1, none⟩ = some (.int .i64 x1) := (hx.cell 1).trans rfl
  have e2 : w1.cell? ⟨w.heap.size, 2, none⟩ = some (.string x2) := (hx.cell 2).trans rfl
  have e3 : w1.cell? ⟨w.heap.size, 3, none⟩ = some (.int .u64 x3) := (hx.cell 3).trans rfl
  have e4 : w1.cell? ⟨w.heap.size, 4, none⟩ = some (.bool x4) := (hx.cell 4).trans rfl
  have e5 : w1.cell? ⟨w.heap.size, 5, none⟩ = some (.bool x5) := (hx.cell 5).trans rfl
  have c0 : w1.cell? ⟨w.heap.size + 1, 0, none⟩ = some (.int .i64 0) := (hy.cell 0).trans rfl
  have c1 : w1.cell? ⟨w.heap.size + 1, 1, none⟩ = some (.int .i64 0) := (hy.cell 1).trans rfl
  have c2 : w1.cell? ⟨w.heap.size + 1, 2, none⟩ = some (.string ⟨#[]⟩) := (hy.cell 2).trans rfl
  have c3 : w1.cell? ⟨w.heap.size + 1, 3, none⟩ = some (.int .u64 0) := (hy.cell 3).trans rfl
  have c4 : w1.cell? ⟨w.heap.size + 1, 4, none⟩ = some (.bool false) := (hy.cell 4).trans rfl
  have c5 : w1.cell? ⟨w.heap.size + 1, 5, none⟩ = some (.bool false) := (hy.cell 5).trans rfl
  have f0 := hy.frozen 0
  have f1 := hy.frozen 1
  have f2 := hy.frozen 2
  have f3 := hy.frozen 3
  have f4 := hy.frozen 4
  have f5 := hy.frozen 5
  have HY := Lib.hid hy
  have HB := Lib.hid hb
  clear hx hy hb
  go_wp2_with fail
  have h3 := (((((HY.out.set_ 0 (.int .i64 x0)).set_ 1 (.int .i64 x1)).set_ 2 (.string x2)).set_ 3 (.int .u64 x3)).set_ 4 (.bool x4)).set_ 5 (.bool x5)
  refine bodyPost_ret (results_cell_row rfl _ _ (w.heap.size + 1) _ _ _ _ rfl h3 Tryd.underlying85 rfl (by rw [link_info]; rfl)) rfl ?_
  refine ⟨rfl, ?_⟩
  repeat (refine below_set ?_ (by omega))
  exact HB.out
end Go.Proofs.YtfdhehjfbcddgaaDoor.Pr
