/- (*planner).do: does a step, if it applies. Conditions: the tree's nodes are not more than a million, nor is any name longer; so many steps as fit. -/
import Derived.Test.YtfdhehjfbcddgaaDoorTApply
section
namespace Go.Proofs.YtfdhehjfbcddgaaDoor.Pr
open Go.RowKit Go.Proofs.YtfdhehjfbcddgaaDoorW.PrintWords Go.Proofs.YtfdhehjfbcddgaaDoorW.PrintLast Go.Proofs.YtfdhehjfbcddgaaDoor
set_option linter.unusedVariables false
/-- a merge of images -/
structure Mg where
  into : Int
  frm : Int
def encM (x : Mg) : List Value := [.int .i64 x.into, .int .i64 x.frm]
theorem encM_len (x : Mg) : (encM x).length = 2 := rfl
/-- a row that is read -/
def RowAt {α : Type} (ty : TypeId) (enc : α → List Value) (w : World) (A : Option Addr) (l : List α) : Prop :=
  0 < l.length → ∃ b off, A = some ⟨b, off, none⟩ ∧ (∃ cs fr, w.heap[b]? = some (.cells cs ty fr)) ∧ ∀ j u, (flatE enc l)[j]? = some u → w.cell? ⟨b, off + j, none⟩ = some u
theorem RowAt.kept {α : Type} {ty : TypeId} {enc : α → List Value} {w w' : World} {A : Option Addr} {l : List α} (h : RowAt ty enc w A l) (hk : ∀ (b : Nat) cs fr, w.heap[b]? = some (.cells cs ty fr) → w'.heap[b]? = w.heap[b]?) : RowAt ty enc w' A l := by
  intro hp
  obtain ⟨b, off, ha, ⟨cs, fr, ho⟩, hc⟩ := h hp
  have e := hk b cs fr ho
  refine ⟨b, off, ha, ⟨cs, fr, e.trans ho⟩, fun j u hu => ?_⟩
  rw [← hc j u hu]
  simp only [World.cell?, e]
theorem RowAt.below {α : Type} {ty : TypeId} {enc : α → List Value} {w w' : World} {A : Option Addr} {l : List α} (h : RowAt ty enc w A l) (hb : Below w.heap.size w w') : RowAt ty enc w' A l := h.kept (fun b cs fr ho => hb.block b (obj_lt ho))
theorem RowAt.nil {α : Type} {ty : TypeId} {enc : α → List Value} (w : World) (A : Option Addr) : RowAt ty enc w A [] := fun h => absurd h (Nat.lt_irrefl 0)
theorem RowAt.setB {α : Type} {ty : TypeId} {enc : α → List Value} {w : World} {A : Option Addr} {l : List α} {c : Nat} {ty2 : TypeId} {cs : Array Value} (h : RowAt ty enc w A l) (hk : Blk w c ty2 cs) (ht : ty2 ≠ ty) (j : Nat) (v : Value) : RowAt ty enc (w.setCell ⟨c, j, none⟩ v) A l := by
  refine h.kept (fun b cs' fr ho => Below.heap_setCell w ⟨c, j, none⟩ v b ?_)
  intro e
  have e2 : b = c := e
  rw [e2, show w.heap[c]? = _ from hk] at ho
  simp only [Option.some.injEq, Obj.cells.injEq] at ho
  exact ht ho.2.1
theorem rowAt_own {α : Type} {ty : TypeId} {enc : α → List Value} {k : Nat} (hlen : ∀ x, (enc x).length = k) {w : World} {base : Nat} {A : Option Addr} {n cap : Nat} {l : List α} (h : w.ownsRow base ty k (.slice A n cap) l.length (flatE enc l)) : RowAt ty enc w A l := by
  intro hp
  rcases h.2 with ⟨_, h0⟩ | ⟨g, c, cur, he, hb, hh, _⟩
  · omega
  · injection he with he1 he2 he3
    subst he1
    subst he2
    refine ⟨g, 0, rfl, ⟨cur, (0, 0), hh⟩, fun j u hu => ?_⟩
    have hj : j < (flatE enc l).length := (List.getElem?_eq_some_iff.1 hu).1
    rw [flatE_length hlen] at hj
    rw [Nat.zero_add, h.cellAt j hj, hu]
/-- a plan -/
structure Pl where
  ms : List Mg
  ss : List St
def zP : Pl := ⟨[], []⟩
def PlAt (w : World) (v : Value) (p : Pl) : Prop := ∃ A ca B cb, v = .agg #[.slice A p.ms.length ca, .slice B p.ss.length cb] ∧ RowAt 58 encM w A p.ms ∧ RowAt 62 encS w B p.ss
theorem PlAt.below {w w' : World} {v : Value} {p : Pl} (h : PlAt w v p) (hb : Below w.heap.size w w') : PlAt w' v p := by
  obtain ⟨A, ca, B, cb, rfl, h1, h2⟩ := h
  exact ⟨A, ca, B, cb, rfl, h1.below hb, h2.below hb⟩
theorem PlAt.zero (w : World) : PlAt w (.agg #[.slice none 0 0, .slice none 0 0]) zP := ⟨none, 0, none, 0, rfl, RowAt.nil _ _, RowAt.nil _ _⟩
/-- a planner: the tree, what was planned -/
structure Ps where
  t : Tr
  ms : List Mg
  ss : List St
def doN (s : Ps) (st : St) : Ps := if (applyN s.t st).2 = 0 then ⟨(applyN s.t st).1, s.ms, s.ss ++ [st]⟩ else s
def st3 (k a b : Int) : St := ⟨k, a, b, 0, ⟨#[]⟩⟩
def downN (s : Ps) (x : Nd) (kid : Int) : Ps :=
  doN (doN ⟨s.t, s.ms ++ [⟨kid, x.id⟩], s.ss⟩ (if kid = 0 then st3 6 x.par 0 else st3 4 kid x.par)) (st3 3 x.id 0)
/-- is a link a ghost without kids? -/
def idleB (t : Tr) (x : Nd) : Bool := x.ghost && decide ((kidsN t.l t.lv x.id).length = 0)
def lastIdle (t : Tr) : Nat → Option Nat
  | 0 => none
  | k + 1 => if idleB t (t.l.getD k zN) = true then some k else lastIdle t k
def clearN : Nat → Ps → Ps
  | 0, s => s
  | f + 1, s => match lastIdle s.t s.t.l.length with
    | none => s
    | some i => clearN f (doN s (st3 3 (s.t.l.getD i zN).id 0))
def shortN (s : Ps) (bound : Int) : List Nd → Ps × Bool
  | [] => (s, false)
  | x :: l => if x.ghost = false then shortN s bound l
    else if (kidsN s.t.l s.t.lv x.id).length = 0 then (doN s (st3 3 x.id 0), true)
    else if (kidsN s.t.l s.t.lv x.id).length = 1 then (downN s x ((kidsN s.t.l s.t.lv x.id).getD 0 0), true)
    else if bound < (depthN s.t.l x.id : Int) then (doN ⟨s.t, s.ms ++ [⟨x.id, (findN s.t.l x.par).1.id⟩], s.ss⟩ (st3 4 x.id (findN s.t.l x.par).1.par), true)
    else shortN s bound l
/-- a planner in memory, its own rows from B on -/
def PsAt (w : World) (B b : Nat) (s : Ps) : Prop := ∃ A cap MA mc SA sc, Blk w b 96 #[.slice A s.t.l.length cap, .int .i64 s.t.lv, .int .i64 s.t.nx, .int .u64 s.t.nw, .slice MA s.ms.length mc, .slice SA s.ss.length sc] ∧ s.t.l.length ≤ cap ∧ NodesAt w A s.t.l ∧ w.ownsRow B 58 2 (.slice MA s.ms.length mc) s.ms.length (flatE encM s.ms) ∧ w.ownsRow B 62 5 (.slice SA s.ss.length sc) s.ss.length (flatE encS s.ss) ∧ B ≤ b
theorem PsAt.below {w w' : World} {B b : Nat} {s : Ps} (h : PsAt w B b s) (hb : Below w.heap.size w w') : PsAt w' B b s := by
  obtain ⟨A, cap, MA, mc, SA, sc, hk, hc, hn, hm, hs, hB⟩ := h
  exact ⟨A, cap, MA, mc, SA, sc, hk.below hb hk.lt, hc, hn.below hb, pw_own_below hm hb, pw_own_below hs hb, hB⟩
theorem pl_info : (Tryd.prog.info? 33).map (·.size) = some 2 := by kernel_rfl
theorem infoS : (Tryd.prog.info? 62).map (fun i => (i.zero, i.size, i.bytes)) = some (some (.agg #[.int .i64 0, .int .i64 0, .int .i64 0, .int .u64 0, .string ⟨#[]⟩]), 5, 48) := by kernel_rfl
theorem infoM : (Tryd.prog.info? 58).map (fun i => (i.zero, i.size, i.bytes)) = some (some (.agg #[.int .i64 0, .int .i64 0]), 2, 16) := by kernel_rfl
end Go.Proofs.YtfdhehjfbcddgaaDoor.Pr
end
section
namespace Go.Proofs.YtfdhehjfbcddgaaDoor.Pr
open Go.RowKit Go.Proofs.YtfdhehjfbcddgaaDoorW.PrintWords Go.Proofs.YtfdhehjfbcddgaaDoorW.PrintLast Go.Proofs.YtfdhehjfbcddgaaDoor
set_option linter.unusedVariables false
/-- the load of a plan's steps (named, so that the walk of the region that draws takes it as it comes) -/
def ldS : Op := .load 31 (.tmp 32)
attribute [local go_sem] ldS
/-- three blocks as they were -/
structure KeptB (w w' : World) (b g h : Nat) (row : Option Nat) : Prop where
  hb : w'.heap[b]? = w.heap[b]?
  hg : w'.heap[g]? = w.heap[g]?
  hh : w'.heap[h]? = w.heap[h]?
theorem KeptB.cb {w w' : World} {b g h : Nat} {row : Option Nat} (k : KeptB w w' b g h row) (i : Nat) : w'.cell? ⟨b, i, none⟩ = w.cell? ⟨b, i, none⟩ := World.cell?_of_block (a := ⟨b, i, none⟩) k.hb
theorem KeptB.cg {w w' : World} {b g h : Nat} {row : Option Nat} (k : KeptB w w' b g h row) (i : Nat) : w'.cell? ⟨g, i, none⟩ = w.cell? ⟨g, i, none⟩ := World.cell?_of_block (a := ⟨g, i, none⟩) k.hg
theorem KeptB.ch {w w' : World} {b g h : Nat} {row : Option Nat} (k : KeptB w w' b g h row) (i : Nat) : w'.cell? ⟨h, i, none⟩ = w.cell? ⟨h, i, none⟩ := World.cell?_of_block (a := ⟨h, i, none⟩) k.hh
theorem KeptB.fb {w w' : World} {b g h : Nat} {row : Option Nat} (k : KeptB w w' b g h row) (i : Nat) : w'.frozen? ⟨b, i, none⟩ = w.frozen? ⟨b, i, none⟩ := World.frozen?_of_block (a := ⟨b, i, none⟩) k.hb
theorem KeptB.grown {w w1 w2 : World} {b g h : Nat} {row : Option Nat} (k : KeptB w w1 b g h row) (hg : w1.grownBy w2 row) (h1 : b < w1.heap.size) (h2 : g < w1.heap.size) (h3 : h < w1.heap.size) (n1 : some b ≠ row) (n2 : some g ≠ row) (n3 : some h ≠ row) : KeptB w w2 b g h row :=
  ⟨(hg.block b h1 n1).trans k.hb, (hg.block g h2 n2).trans k.hg, (hg.block h h3 n3).trans k.hh⟩
/-- blocks but planners, steps and merges stay as they were -/
def KeepT (w w' : World) : Prop := w.heap.size ≤ w'.heap.size ∧ ∀ (k : Nat) (cs : Array Value) (ty : TypeId) (fr : Nat × Nat), w.heap[k]? = some (.cells cs ty fr) → ty ≠ 96 → ty ≠ 62 → ty ≠ 58 → w'.heap[k]? = w.heap[k]?
theorem KeepT.of_below {w w' : World} (h : Below w.heap.size w w') : KeepT w w' := ⟨h.size, fun k cs ty fr hk _ _ _ => h.block k (obj_lt hk)⟩
theorem KeepT.trans {w w1 w2 : World} (h1 : KeepT w w1) (h2 : KeepT w1 w2) : KeepT w w2 := ⟨Nat.le_trans h1.1 h2.1, fun k cs ty fr hk a b c => (h2.2 k cs ty fr ((h1.2 k cs ty fr hk a b c).trans hk) a b c).trans (h1.2 k cs ty fr hk a b c)⟩
theorem KeepT.blk {w w' : World} (h : KeepT w w') {k : Nat} {ty : TypeId} {cs : Array Value} (hk : Blk w k ty cs) (a : ty ≠ 96) (b : ty ≠ 62) (c : ty ≠ 58) : Blk w' k ty cs := (h.2 k cs ty (0, 0) hk a b c).trans hk
theorem KeepT.nodes {w w' : World} (h : KeepT w w') {A : Option Addr} {l : List Nd} (hn : NodesAt w A l) : NodesAt w' A l := hn.kept (fun k cs fr hk => h.2 k cs _ fr hk (by decide) (by decide) (by decide))
theorem KeepT.setB {w w1 : World} (h : KeepT w w1) {b : Nat} {cs : Array Value} (hb : Blk w b 96 cs) (j : Nat) (v : Value) : KeepT w (w1.setCell ⟨b, j, none⟩ v) := by
  refine ⟨by have := h.1; simpa [World.setCell] using this, fun k cs' ty fr hk a1 a2 a3 => (Below.heap_setCell w1 ⟨b, j, none⟩ v k ?_).trans (h.2 k cs' ty fr hk a1 a2 a3)⟩
  intro e
  have e2 : k = b := e
  rw [e2, show w.heap[b]? = _ from hb] at hk
  simp only [Option.some.injEq, Obj.cells.injEq] at hk
  exact a1 hk.2.1.symm
theorem own_neT {w : World} {base : Nat} {e t : TypeId} {size n g : Nat} {v : Value} {xs : List Value} {cs : Array Value} {fr : Nat × Nat} (h : w.ownsRow base e size v n xs) (hg : w.heap[g]? = some (.cells cs t fr)) (hne : e ≠ t) : some g ≠ v.ownBlock := by
  rcases h.2 with ⟨rfl, _⟩ | ⟨g', cap, cur, rfl, _, hh, _⟩
  · simp [Value.ownBlock]
  · intro he
    have e2 : g = g' := by simpa [Value.ownBlock] using he
    rw [e2, hh] at hg
    simp only [Option.some.injEq, Obj.cells.injEq] at hg
    exact hne hg.2.1
theorem do_end {w wc W w6 : World} {B b n cap km mc ks sc qn cp5 g6 c6 g h : Nat} {A MA SA A5 : Option Addr} {lv nx nw q1 q2 q3 kd a c : Int} {ql : List Nd} {ms : List Mg} {ss : List St}
    (hkb : Blk wc b 96 #[.slice A n cap, .int .i64 lv, .int .i64 nx, .int .u64 nw, .slice MA km mc, .slice SA ks sc]) (hkp : KeptB wc w6 b g h (Value.slice SA ks sc).ownBlock) (hW : Below wc.heap.size wc W) (hgr : W.grownBy w6 (Value.slice SA ks sc).ownBlock) (hs5 : wc.ownsRow B 62 5 (.slice SA ks sc) ks (flatE encS ss)) (hm5 : wc.ownsRow B 58 2 (.slice MA km mc) km (flatE encM ms))
    (ho6 : w6.ownsRow B 62 5 (.slice (some ⟨g6, 0, none⟩) (ks + 1) c6) (ks + 1) (flatE encS ss ++ (#[.int .i64 kd, .int .i64 a, .int .i64 c, .int .u64 0, .string ⟨#[]⟩] : Array Value).toList)) (hn5 : NodesAt wc A5 ql) (hcp : qn ≤ cp5) (hqn : ql.length = qn) (hkm : ms.length = km) (hks : ss.length = ks) (hbw : Below B w wc) (hBb : B ≤ b) (hB : B ≤ wc.heap.size) :
    PsAt (((((w6.setCell ⟨b, 0, none⟩ (.slice A5 qn cp5)).setCell ⟨b, 1, none⟩ (.int .i64 q1)).setCell ⟨b, 2, none⟩ (.int .i64 q2)).setCell ⟨b, 3, none⟩ (.int .u64 q3)).setCell ⟨b, 5, none⟩ (.slice (some ⟨g6, 0, none⟩) (ks + 1) c6)) B b ⟨⟨ql, q1, q2, q3⟩, ms, ss ++ [⟨kd, a, c, 0, ⟨#[]⟩⟩]⟩ ∧
    Below B w (((((w6.setCell ⟨b, 0, none⟩ (.slice A5 qn cp5)).setCell ⟨b, 1, none⟩ (.int .i64 q1)).setCell ⟨b, 2, none⟩ (.int .i64 q2)).setCell ⟨b, 3, none⟩ (.int .u64 q3)).setCell ⟨b, 5, none⟩ (.slice (some ⟨g6, 0, none⟩) (ks + 1) c6)) ∧ KeepT wc (((((w6.setCell ⟨b, 0, none⟩ (.slice A5 qn cp5)).setCell ⟨b, 1, none⟩ (.int .i64 q1)).setCell ⟨b, 2, none⟩ (.int .i64 q2)).setCell ⟨b, 3, none⟩ (.int .u64 q3)).setCell ⟨b, 5, none⟩ (.slice (some ⟨g6, 0, none⟩) (ks + 1) c6)) := by
  have hk6 : Blk w6 b 96 #[.slice A n cap, .int .i64 lv, .int .i64 nx, .int .u64 nw, .slice MA km mc, .slice SA ks sc] := hkp.hb.trans hkb
  have k1 := hk6.set_ 0 (.slice A5 qn cp5)
  have k2 := k1.set_ 1 (.int .i64 q1)
  have k3 := k2.set_ 2 (.int .i64 q2)
  have k4 := k3.set_ 3 (.int .u64 q3)
  have k5 := k4.set_ 5 (.slice (some ⟨g6, 0, none⟩) (ks + 1) c6)
  have hn6 : NodesAt w6 A5 ql := (hn5.below hW).kept (fun k cs fr hk => hgr.block k (obj_lt hk) (own_neT (pw_own_below hs5 hW) hk (by decide)))
  have hm6 : w6.ownsRow B 58 2 (.slice MA km mc) km (flatE encM ms) := own_other (pw_own_below hm5 hW) hgr (own_type_ne (pw_own_below hm5 hW) (pw_own_below hs5 hW) (by decide))
  have hnem := own_ne hm6 hk6 (by decide)
  have hnes := own_ne ho6 hk6 (by decide)
  have hl : (ss ++ [(⟨kd, a, c, 0, ⟨#[]⟩⟩ : St)]).length = ks + 1 := by rw [List.length_append, hks]; rfl
  have he : flatE encS ss ++ (#[.int .i64 kd, .int .i64 a, .int .i64 c, .int .u64 0, .string ⟨#[]⟩] : Array Value).toList = flatE encS (ss ++ [⟨kd, a, c, 0, ⟨#[]⟩⟩]) := by rw [flatE_append]; rfl
  rw [he] at ho6
  have hb6 : Below B w w6 := hbw.trans (pw_below_grown (hW.mono hB) _ (Nat.le_trans hB hW.size) hgr (fun k hk => (hs5.lt k hk).1))
  refine ⟨⟨A5, cp5, MA, mc, some ⟨g6, 0, none⟩, c6, ?_, by dsimp only; rw [hqn]; exact hcp, ?_, ?_, ?_, hBb⟩, ?_, ?_⟩
  · dsimp only
    rw [hqn, hkm, hl]
    exact k5
  · exact ((((hn6.setB hk6 (by decide) 0 _).setB k1 (by decide) 1 _).setB k2 (by decide) 2 _).setB k3 (by decide) 3 _).setB k4 (by decide) 5 _
  · dsimp only
    rw [hkm]
    exact own_setCell (own_setCell (own_setCell (own_setCell (own_setCell hm6 (p := ⟨b, 0, none⟩) hnem _) (p := ⟨b, 1, none⟩) hnem _) (p := ⟨b, 2, none⟩) hnem _) (p := ⟨b, 3, none⟩) hnem _) (p := ⟨b, 5, none⟩) hnem _
  · dsimp only
    rw [hl]
    exact own_setCell (own_setCell (own_setCell (own_setCell (own_setCell ho6 (p := ⟨b, 0, none⟩) hnes _) (p := ⟨b, 1, none⟩) hnes _) (p := ⟨b, 2, none⟩) hnes _) (p := ⟨b, 3, none⟩) hnes _) (p := ⟨b, 5, none⟩) hnes _
  · exact ((((hb6.setCell (p := ⟨b, 0, none⟩) hBb _).setCell (p := ⟨b, 1, none⟩) hBb _).setCell (p := ⟨b, 2, none⟩) hBb _).setCell (p := ⟨b, 3, none⟩) hBb _).setCell (p := ⟨b, 5, none⟩) hBb _
  · have hk0 : KeepT wc w6 := ⟨Nat.le_trans hW.size hgr.size, fun k cs ty fr hk a1 a2 a3 => (hgr.block k (Nat.lt_of_lt_of_le (obj_lt hk) hW.size) (own_neT hs5 hk (fun e => a2 e.symm))).trans (hW.block k (obj_lt hk))⟩
    exact ((((hk0.setB hkb 0 _).setB hkb 1 _).setB hkb 2 _).setB hkb 3 _).setB hkb 5 _
set_option maxRecDepth 100000 in
set_option maxHeartbeats 8000000 in
theorem tdo_any (B b : Nat) (A : Option Addr) (cap : Nat) (l : List Nd) (lv nx nw : Int) (MA : Option Addr) (mc : Nat) (ms : List Mg) (SA : Option Addr) (sc : Nat) (ss : List St) (kd a c : Int) (w : World) (hl : l.length ≤ 1000000) (hcp : l.length ≤ cap) (hT : Tabs w) (hnm : ∀ x ∈ l, x.name.size ≤ 1000000) (hr : NodesAt w A l)
    (hk : Blk w b 96 #[.slice A l.length cap, .int .i64 lv, .int .i64 nx, .int .u64 nw, .slice MA ms.length mc, .slice SA ss.length sc]) (hm : w.ownsRow B 58 2 (.slice MA ms.length mc) ms.length (flatE encM ms)) (hs : w.ownsRow B 62 5 (.slice SA ss.length sc) ss.length (flatE encS ss)) (hss : ss.length ≤ 1099511627776) (hBb : B ≤ b) (hB : B ≤ w.heap.size) :
    Calls Tryd.prog 45 #[.pointer (some ⟨b, 0, none⟩), .int .i64 kd, .int .i64 a, .int .i64 c] w fun e w' => e = .returned (.tuple #[]) ∧ PsAt w' B b (doN ⟨⟨l, lv, nx, nw⟩, ms, ss⟩ (st3 kd a c)) ∧ Below B w w' ∧ KeepT w w' := by
  have hap := fun (w1 : World) (hx : NodesAt w1 A l) (ht : Tabs w1) => tapply_any A cap l lv nx nw kd a c 0 ⟨#[]⟩ w1 hl hcp hx ht hnm (by decide)
  have hdo : doN ⟨⟨l, lv, nx, nw⟩, ms, ss⟩ (st3 kd a c) = if (applyN ⟨l, lv, nx, nw⟩ ⟨kd, a, c, 0, ⟨#[]⟩⟩).2 = 0 then ⟨(applyN ⟨l, lv, nx, nw⟩ ⟨kd, a, c, 0, ⟨#[]⟩⟩).1, ms, ss ++ [⟨kd, a, c, 0, ⟨#[]⟩⟩]⟩ else ⟨⟨l, lv, nx, nw⟩, ms, ss⟩ := rfl
  obtain ⟨D, hD⟩ : ∃ D, doN ⟨⟨l, lv, nx, nw⟩, ms, ss⟩ (st3 kd a c) = D := ⟨_, rfl⟩
  obtain ⟨⟨⟨ql, q1, q2, q3⟩, qe⟩, hQ⟩ : ∃ Q, applyN ⟨l, lv, nx, nw⟩ ⟨kd, a, c, 0, ⟨#[]⟩⟩ = Q := ⟨_, rfl⟩
  rw [hD, hQ] at hdo
  rw [hQ] at hap
  rw [hD]
  dsimp only at hdo hap
  have HDO := Lib.hid hdo
  have HAP := Lib.hid hap
  clear hap hdo hD hQ
  have hblt := hk.lt
  have hbn := (Below.refl w.heap.size w).alloc (Nat.le_refl _) (.cells #[.int .i64 kd, .int .i64 a, .int .i64 c, .int .u64 0, .string ⟨#[]⟩] 62)
  have hk1 := hk.alloc (.cells #[.int .i64 kd, .int .i64 a, .int .i64 c, .int .u64 0, .string ⟨#[]⟩] 62)
  have hs1 := Blk.new w 62 #[.int .i64 kd, .int .i64 a, .int .i64 c, .int .u64 0, .string ⟨#[]⟩]
  obtain ⟨h, hh⟩ : ∃ h, h = w.heap.size := ⟨_, rfl⟩
  have hbh : b < h := by omega
  have HH := Lib.hid hh
  have HSW := Lib.hid hs
  have HM := Lib.hid (pw_own_below hm hbn)
  have HS := Lib.hid (pw_own_below hs hbn)
  have HR := Lib.hid (hr.below hbn)
  have HT := Lib.hid (hT.below hbn)
  have HBN := Lib.hid hbn
  have HK := Lib.hid hk1
  have HS1 := Lib.hid hs1
  obtain ⟨n, hn⟩ : ∃ n, l.length = n := ⟨_, rfl⟩
  obtain ⟨km, hkm⟩ : ∃ km, ms.length = km := ⟨_, rfl⟩
  obtain ⟨ks, hks⟩ : ∃ ks, ss.length = ks := ⟨_, rfl⟩
  have HN := Lib.hid hn
  have HKM := Lib.hid hkm
  have HKS := Lib.hid hks
  rw [hn] at hl hcp HAP HK
  rw [hkm] at HK HM
  rw [hks] at HK HS HSW hss
  have HCP := Lib.hid hcp
  clear hm hs hr hT hbn hk1 hs1 hk hn hkm hks hcp hh
  go_enter Tryd.func45, Tryd.ntmps45
  go_upto_region 1 with fail
  rw [← HH.out] at HS1 ⊢
  generalize (w.alloc (.cells #[.int .i64 kd, .int .i64 a, .int .i64 c, .int .u64 0, .string ⟨#[]⟩] 62)) = w1 at HM HS HR HT HBN HK HS1 ⊢
  have hlt1 : h < w1.heap.size := HS1.out.lt
  have p0 : w1.cell? ⟨b, 0, none⟩ = some (.slice A n cap) := (HK.out.cell 0).trans rfl
  have p1 : w1.cell? ⟨b, 1, none⟩ = some (.int .i64 lv) := (HK.out.cell 1).trans rfl
  have p2 : w1.cell? ⟨b, 2, none⟩ = some (.int .i64 nx) := (HK.out.cell 2).trans rfl
  have p3 : w1.cell? ⟨b, 3, none⟩ = some (.int .u64 nw) := (HK.out.cell 3).trans rfl
  have p4 : w1.cell? ⟨b, 4, none⟩ = some (.slice MA km mc) := (HK.out.cell 4).trans rfl
  have p5 : w1.cell? ⟨b, 5, none⟩ = some (.slice SA ks sc) := (HK.out.cell 5).trans rfl
  have s0 : w1.cell? ⟨h, 0, none⟩ = some (.int .i64 kd) := (HS1.out.cell 0).trans rfl
  have s1 : w1.cell? ⟨h, 1, none⟩ = some (.int .i64 a) := (HS1.out.cell 1).trans rfl
  have s2 : w1.cell? ⟨h, 2, none⟩ = some (.int .i64 c) := (HS1.out.cell 2).trans rfl
  have s3 : w1.cell? ⟨h, 3, none⟩ = some (.int .u64 0) := (HS1.out.cell 3).trans rfl
  have s4 : w1.cell? ⟨h, 4, none⟩ = some (.string ⟨#[]⟩) := (HS1.out.cell 4).trans rfl
  go_cut [9, 10] from 15 (fun v9 v10 wx => ∃ (g cp5 : Nat) (A5 : Option Addr), v9 = .pointer (some ⟨g, 0, none⟩) ∧ v10 = .int .i64 qe ∧ Hid (w1.heap.size ≤ g) ∧ Hid (Blk wx g 28 #[.slice A5 ql.length cp5, .int .i64 q1, .int .i64 q2, .int .u64 q3]) ∧ Hid (ql.length ≤ cp5) ∧ Hid (NodesAt wx A5 ql) ∧ Hid (Below w1.heap.size w1 wx))
  case first =>
    have hkeep : ∀ w', Below w1.heap.size w1 w' → w'.cell? ⟨b, 0, none⟩ = some (.slice A n cap) ∧ w'.cell? ⟨b, 1, none⟩ = some (.int .i64 lv) ∧ w'.cell? ⟨b, 2, none⟩ = some (.int .i64 nx) ∧ w'.cell? ⟨b, 3, none⟩ = some (.int .u64 nw) ∧ w'.cell? ⟨h, 0, none⟩ = some (.int .i64 kd) ∧ w'.cell? ⟨h, 1, none⟩ = some (.int .i64 a) ∧ w'.cell? ⟨h, 2, none⟩ = some (.int .i64 c) ∧ w'.cell? ⟨h, 3, none⟩ = some (.int .u64 0) ∧ w'.cell? ⟨h, 4, none⟩ = some (.string ⟨#[]⟩) := by
      intro w' hb
      have q0 : b < w1.heap.size := by omega
      exact ⟨(hb.cell (p := ⟨b, 0, none⟩) q0).trans p0, (hb.cell (p := ⟨b, 1, none⟩) q0).trans p1, (hb.cell (p := ⟨b, 2, none⟩) q0).trans p2, (hb.cell (p := ⟨b, 3, none⟩) q0).trans p3, (hb.cell (p := ⟨h, 0, none⟩) hlt1).trans s0, (hb.cell (p := ⟨h, 1, none⟩) hlt1).trans s1, (hb.cell (p := ⟨h, 2, none⟩) hlt1).trans s2, (hb.cell (p := ⟨h, 3, none⟩) hlt1).trans s3, (hb.cell (p := ⟨h, 4, none⟩) hlt1).trans s4⟩
    have HKP := Lib.hid hkeep
    clear hkeep
    go_region_held3 (fun w' => w'.cell? ⟨b, 0, none⟩ = some (.slice A n cap) ∧ w'.cell? ⟨b, 1, none⟩ = some (.int .i64 lv) ∧ w'.cell? ⟨b, 2, none⟩ = some (.int .i64 nx) ∧ w'.cell? ⟨b, 3, none⟩ = some (.int .u64 nw) ∧ w'.cell? ⟨h, 0, none⟩ = some (.int .i64 kd) ∧ w'.cell? ⟨h, 1, none⟩ = some (.int .i64 a) ∧ w'.cell? ⟨h, 2, none⟩ = some (.int .i64 c) ∧ w'.cell? ⟨h, 3, none⟩ = some (.int .u64 0) ∧ w'.cell? ⟨h, 4, none⟩ = some (.string ⟨#[]⟩))
      (first | exact HKP.out _ (below_drew1 (Below.refl _ _)) | exact HKP.out _ (below_alloc (below_drew1 (Below.refl _ _)) _) | exact HKP.out _ hbl5 | exact HKP.out _ (below_alloc hbl5 _) | exact HKP.out _ ((((hbl5.setCell (p := ⟨w1.heap.size, 0, none⟩) (Nat.le_refl _) _).setCell (p := ⟨w1.heap.size, 1, none⟩) (Nat.le_refl _) _).setCell (p := ⟨w1.heap.size, 2, none⟩) (Nat.le_refl _) _).setCell (p := ⟨w1.heap.size, 3, none⟩) (Nat.le_refl _) _) | fail)
      (first
        | (go_at_call 21; refine (HAP.out _ ?_ ?_).mono ?_; (exact HR.out.below (by first | exact below_drew1 (Below.refl _ _) | exact below_alloc (below_drew1 (Below.refl _ _)) _)); (exact HT.out.below (by first | exact below_drew1 (Below.refl _ _) | exact below_alloc (below_drew1 (Below.refl _ _)) _)); (rintro e w5 ⟨v5, rfl, ht5, hb5⟩; have hbl5 : Below w1.heap.size w1 w5 := (by first | exact (below_drew1 (Below.refl _ _)).trans hb5 | exact (below_alloc (below_drew1 (Below.refl _ _)) _).trans (hb5.mono (by simp))); obtain ⟨A5, cp5, rfl, hc5, hn5⟩ := ht5; (first | (have HZ := Lib.hid (show Blk w5 w1.heap.size 28 #[.slice none 0 0, .int .i64 0, .int .i64 0, .int .u64 0] from (hb5.block w1.heap.size (by simp)).trans (heap_alloc_new w1.drew _)); have z0 : w5.cell? ⟨w1.heap.size, 0, none⟩ = some (.slice none 0 0) := (HZ.out.cell 0).trans rfl; have z1 : w5.cell? ⟨w1.heap.size, 1, none⟩ = some (.int .i64 0) := (HZ.out.cell 1).trans rfl; have z2 : w5.cell? ⟨w1.heap.size, 2, none⟩ = some (.int .i64 0) := (HZ.out.cell 2).trans rfl; have z3 : w5.cell? ⟨w1.heap.size, 3, none⟩ = some (.int .u64 0) := (HZ.out.cell 3).trans rfl; have y0 := HZ.out.frozen 0; have y1 := HZ.out.frozen 1; have y2 := HZ.out.frozen 2; have y3 := HZ.out.frozen 3) | skip)))
        | fail)
    all_goals (go_wp2_with fail; go_meet)
    · exact ⟨w5.heap.size, cp5, A5, rfl, rfl, Lib.hid hbl5.size, Lib.hid (Blk.new w5 _ _), Lib.hid hc5, Lib.hid (hn5.below (below_alloc (Below.refl _ _) _)), Lib.hid (below_alloc hbl5 _)⟩
    · exact ⟨w1.heap.size, cp5, A5, rfl, rfl, Lib.hid (Nat.le_refl _), Lib.hid ((((HZ.out.set_ 0 _).set_ 1 _).set_ 2 _).set_ 3 _), Lib.hid hc5, Lib.hid (hn5.set4 HZ.out (by decide) _ _ _ _), Lib.hid ((((hbl5.setCell (p := ⟨w1.heap.size, 0, none⟩) (Nat.le_refl _) _).setCell (p := ⟨w1.heap.size, 1, none⟩) (Nat.le_refl _) _).setCell (p := ⟨w1.heap.size, 2, none⟩) (Nat.le_refl _) _).setCell (p := ⟨w1.heap.size, 3, none⟩) (Nat.le_refl _) _)⟩
  case rest =>
    clear p0 p1 p2 p3 p4 p5 s0 s1 s2 s3 s4
    obtain ⟨g, cp5, A5, rfl, rfl, HG, HKG, HC5, HN5, HB5⟩ := hcut
    have kb := HK.out.below HB5.out HK.out.lt
    have kh := HS1.out.below HB5.out HS1.out.lt
    have hm5 := pw_own_below HM.out HB5.out
    have hs5 := pw_own_below HS.out HB5.out
    have hbw : Below B w wc := (HBN.out.trans (HB5.out.mono HBN.out.size)).mono hB
    have HKT := Lib.hid (KeepT.of_below (HBN.out.trans (HB5.out.mono HBN.out.size)))
    by_cases hq : qe = 0
    · subst hq
      have hD : D = ⟨⟨ql, q1, q2, q3⟩, ms, ss ++ [⟨kd, a, c, 0, ⟨#[]⟩⟩]⟩ := by rw [HDO.out]; simp
      subst hD
      obtain ⟨qn, hqn⟩ : ∃ qn, ql.length = qn := ⟨_, rfl⟩
      have HQN := Lib.hid hqn
      rw [hqn] at HKG HC5
      have kg := HKG.out
      have p0 : wc.cell? ⟨b, 0, none⟩ = some (.slice A n cap) := (kb.cell 0).trans rfl
      have p1 : wc.cell? ⟨b, 1, none⟩ = some (.int .i64 lv) := (kb.cell 1).trans rfl
      have p2 : wc.cell? ⟨b, 2, none⟩ = some (.int .i64 nx) := (kb.cell 2).trans rfl
      have p3 : wc.cell? ⟨b, 3, none⟩ = some (.int .u64 nw) := (kb.cell 3).trans rfl
      have p4 : wc.cell? ⟨b, 4, none⟩ = some (.slice MA km mc) := (kb.cell 4).trans rfl
      have p5 : wc.cell? ⟨b, 5, none⟩ = some (.slice SA ks sc) := (kb.cell 5).trans rfl
      have s0 : wc.cell? ⟨h, 0, none⟩ = some (.int .i64 kd) := (kh.cell 0).trans rfl
      have s1 : wc.cell? ⟨h, 1, none⟩ = some (.int .i64 a) := (kh.cell 1).trans rfl
      have s2 : wc.cell? ⟨h, 2, none⟩ = some (.int .i64 c) := (kh.cell 2).trans rfl
      have s3 : wc.cell? ⟨h, 3, none⟩ = some (.int .u64 0) := (kh.cell 3).trans rfl
      have s4 : wc.cell? ⟨h, 4, none⟩ = some (.string ⟨#[]⟩) := (kh.cell 4).trans rfl
      have e0 : wc.cell? ⟨g, 0, none⟩ = some (.slice A5 qn cp5) := (kg.cell 0).trans rfl
      have e1 : wc.cell? ⟨g, 1, none⟩ = some (.int .i64 q1) := (kg.cell 1).trans rfl
      have e2 : wc.cell? ⟨g, 2, none⟩ = some (.int .i64 q2) := (kg.cell 2).trans rfl
      have e3 : wc.cell? ⟨g, 3, none⟩ = some (.int .u64 q3) := (kg.cell 3).trans rfl
      have fz0 := kb.frozen 0
      have fz1 := kb.frozen 1
      have fz2 := kb.frozen 2
      have fz3 := kb.frozen 3
      have fz5 := kb.frozen 5
      have hrow : ∀ k, (Value.slice SA ks sc).ownBlock = some k → B ≤ k ∧ k < h := fun k hk => by
        have h1 := HSW.out.lt k hk
        rw [HH.out]; exact h1
      have hgw : w1.heap.size ≤ g := HG.out
      have hneb := own_ne HS.out HK.out (by decide)
      have hneh : some h ≠ (Value.slice SA ks sc).ownBlock := fun e => by have := (hrow h e.symm).2; omega
      have hneg : some g ≠ (Value.slice SA ks sc).ownBlock := fun e => by have := (hrow g e.symm).2; omega
      have hglt : g < wc.heap.size := kg.lt
      have hhlt : h < wc.heap.size := kh.lt
      have hblt5 : b < wc.heap.size := kb.lt
      have hBc : B ≤ wc.heap.size := by have := hbw.size; omega
      have HKB := Lib.hid kb
      have HM5 := Lib.hid hm5
      have HS5 := Lib.hid hs5
      have HBW := Lib.hid hbw
      have HROW := Lib.hid hrow
      have HNB := Lib.hid hneb
      have HNH := Lib.hid hneh
      have HNG := Lib.hid hneg
      obtain ⟨i0, hi0, hzz⟩ := Option.map_eq_some_iff.1 infoS
      simp only [Prod.mk.injEq] at hzz
      obtain ⟨hz0, hz1, hz2⟩ := hzz
      have HI0 := Lib.hid hi0
      have HZ0 := Lib.hid hz0
      have HZ1 := Lib.hid hz1
      have HZ2 := Lib.hid hz2
      have hone : ∀ u ∈ (#[.int .i64 kd, .int .i64 a, .int .i64 c, .int .u64 0, .string ⟨#[]⟩] : Array Value).toList, u.oneCell' = true := by
        intro u hu
        simp only [List.mem_cons, List.not_mem_nil, or_false] at hu
        rcases hu with rfl | rfl | rfl | rfl | rfl <;> rfl
      have HON := Lib.hid hone
      clear kb kh kg hm5 hs5 hbw hrow hneb hneh hneg hi0 hz0 hz1 hz2 hone hqn HDO HAP HKG HK HM HS HS1 HR HT HBN HB5
      go_upto_region 3 with fail
      have hkeep : ∀ w', KeptB wc w' b g h (Value.slice SA ks sc).ownBlock → w'.cell? ⟨g, 0, none⟩ = some (.slice A5 qn cp5) ∧ w'.cell? ⟨g, 1, none⟩ = some (.int .i64 q1) ∧ w'.cell? ⟨g, 2, none⟩ = some (.int .i64 q2) ∧ w'.cell? ⟨g, 3, none⟩ = some (.int .u64 q3) ∧ w'.cell? ⟨h, 0, none⟩ = some (.int .i64 kd) ∧ w'.cell? ⟨h, 1, none⟩ = some (.int .i64 a) ∧ w'.cell? ⟨h, 2, none⟩ = some (.int .i64 c) ∧ w'.cell? ⟨h, 3, none⟩ = some (.int .u64 0) ∧ w'.cell? ⟨h, 4, none⟩ = some (.string ⟨#[]⟩) := by
        intro w' hb
        exact ⟨(hb.cg 0).trans e0, (hb.cg 1).trans e1, (hb.cg 2).trans e2, (hb.cg 3).trans e3, (hb.ch 0).trans s0, (hb.ch 1).trans s1, (hb.ch 2).trans s2, (hb.ch 3).trans s3, (hb.ch 4).trans s4⟩
      have hks : ∀ (w' : World) (j : Nat) (v : Value), (w'.cell? ⟨g, 0, none⟩ = some (.slice A5 qn cp5) ∧ w'.cell? ⟨g, 1, none⟩ = some (.int .i64 q1) ∧ w'.cell? ⟨g, 2, none⟩ = some (.int .i64 q2) ∧ w'.cell? ⟨g, 3, none⟩ = some (.int .u64 q3) ∧ w'.cell? ⟨h, 0, none⟩ = some (.int .i64 kd) ∧ w'.cell? ⟨h, 1, none⟩ = some (.int .i64 a) ∧ w'.cell? ⟨h, 2, none⟩ = some (.int .i64 c) ∧ w'.cell? ⟨h, 3, none⟩ = some (.int .u64 0) ∧ w'.cell? ⟨h, 4, none⟩ = some (.string ⟨#[]⟩)) → (w'.setCell ⟨b, j, none⟩ v).cell? ⟨g, 0, none⟩ = some (.slice A5 qn cp5) ∧ (w'.setCell ⟨b, j, none⟩ v).cell? ⟨g, 1, none⟩ = some (.int .i64 q1) ∧ (w'.setCell ⟨b, j, none⟩ v).cell? ⟨g, 2, none⟩ = some (.int .i64 q2) ∧ (w'.setCell ⟨b, j, none⟩ v).cell? ⟨g, 3, none⟩ = some (.int .u64 q3) ∧ (w'.setCell ⟨b, j, none⟩ v).cell? ⟨h, 0, none⟩ = some (.int .i64 kd) ∧ (w'.setCell ⟨b, j, none⟩ v).cell? ⟨h, 1, none⟩ = some (.int .i64 a) ∧ (w'.setCell ⟨b, j, none⟩ v).cell? ⟨h, 2, none⟩ = some (.int .i64 c) ∧ (w'.setCell ⟨b, j, none⟩ v).cell? ⟨h, 3, none⟩ = some (.int .u64 0) ∧ (w'.setCell ⟨b, j, none⟩ v).cell? ⟨h, 4, none⟩ = some (.string ⟨#[]⟩) := by
        intro w' j v hs
        have q0 : g ≠ b := by omega
        have q1 : h ≠ b := by omega
        have cc : ∀ (k i : Nat), k ≠ b → (w'.setCell ⟨b, j, none⟩ v).cell? ⟨k, i, none⟩ = w'.cell? ⟨k, i, none⟩ := fun k i hk => by
          have := Below.heap_setCell w' ⟨b, j, none⟩ v k hk
          simp only [World.cell?, this]
        exact ⟨(cc _ _ q0).trans hs.1, (cc _ _ q0).trans hs.2.1, (cc _ _ q0).trans hs.2.2.1, (cc _ _ q0).trans hs.2.2.2.1, (cc _ _ q1).trans hs.2.2.2.2.1, (cc _ _ q1).trans hs.2.2.2.2.2.1, (cc _ _ q1).trans hs.2.2.2.2.2.2.1, (cc _ _ q1).trans hs.2.2.2.2.2.2.2.1, (cc _ _ q1).trans hs.2.2.2.2.2.2.2.2⟩
      have ht : ∀ w', KeptB wc w' b g h (Value.slice SA ks sc).ownBlock → w'.cell? ⟨b, 0, none⟩ = some (.slice A n cap) ∧ w'.cell? ⟨b, 1, none⟩ = some (.int .i64 lv) ∧ w'.cell? ⟨b, 2, none⟩ = some (.int .i64 nx) ∧ w'.cell? ⟨b, 3, none⟩ = some (.int .u64 nw) ∧ w'.cell? ⟨b, 5, none⟩ = some (.slice SA ks sc) ∧ w'.frozen? ⟨b, 0, none⟩ = false ∧ w'.frozen? ⟨b, 1, none⟩ = false ∧ w'.frozen? ⟨b, 2, none⟩ = false ∧ w'.frozen? ⟨b, 3, none⟩ = false ∧ w'.frozen? ⟨b, 5, none⟩ = false := fun w' hb =>
        ⟨(hb.cb 0).trans p0, (hb.cb 1).trans p1, (hb.cb 2).trans p2, (hb.cb 3).trans p3, (hb.cb 5).trans p5, (hb.fb 0).trans fz0, (hb.fb 1).trans fz1, (hb.fb 2).trans fz2, (hb.fb 3).trans fz3, (hb.fb 5).trans fz5⟩
      have kd0 : KeptB wc wc.drew b g h (Value.slice SA ks sc).ownBlock := ⟨rfl, rfl, rfl⟩
      have ka0 : KeptB wc (wc.drew.alloc (.cells #[.int .i64 kd, .int .i64 a, .int .i64 c, .int .u64 0, .string ⟨#[]⟩] 62)) b g h (Value.slice SA ks sc).ownBlock := ⟨Below.heap_alloc wc.drew _ b hblt5, Below.heap_alloc wc.drew _ g hglt, Below.heap_alloc wc.drew _ h hhlt⟩
      have ka1 : KeptB wc (wc.alloc (.cells #[.int .i64 kd, .int .i64 a, .int .i64 c, .int .u64 0, .string ⟨#[]⟩] 62)) b g h (Value.slice SA ks sc).ownBlock := ⟨Below.heap_alloc wc _ b hblt5, Below.heap_alloc wc _ g hglt, Below.heap_alloc wc _ h hhlt⟩
      have tb5 := (ht _ ka1).2.2.2.2.1
      have tc5 := (ht _ ka0).2.2.2.2.1
      have HKP := Lib.hid hkeep
      have HKS' := Lib.hid hks
      have HTT := Lib.hid ht
      have KD0 := Lib.hid kd0
      have KA0 := Lib.hid ka0
      have KA1 := Lib.hid ka1
      have KA2 := Lib.hid (show KeptB wc (wc.alloc (.cells #[.int .i64 kd, .int .i64 a, .int .i64 c, .int .u64 0, .string ⟨#[]⟩] 62)).drew b g h (Value.slice SA ks sc).ownBlock from ⟨ka1.hb, ka1.hg, ka1.hh⟩)
      clear hkeep hks ht kd0 ka0 ka1
      rw [show Op.load 31 (Operand.tmp 32) = ldS from rfl]
      go_region_held3 (fun w' => w'.cell? ⟨g, 0, none⟩ = some (.slice A5 qn cp5) ∧ w'.cell? ⟨g, 1, none⟩ = some (.int .i64 q1) ∧ w'.cell? ⟨g, 2, none⟩ = some (.int .i64 q2) ∧ w'.cell? ⟨g, 3, none⟩ = some (.int .u64 q3) ∧ w'.cell? ⟨h, 0, none⟩ = some (.int .i64 kd) ∧ w'.cell? ⟨h, 1, none⟩ = some (.int .i64 a) ∧ w'.cell? ⟨h, 2, none⟩ = some (.int .i64 c) ∧ w'.cell? ⟨h, 3, none⟩ = some (.int .u64 0) ∧ w'.cell? ⟨h, 4, none⟩ = some (.string ⟨#[]⟩))
        (first | with_reducible exact HKP.out _ KD0.out | with_reducible exact HKP.out _ KA0.out | with_reducible exact HKP.out _ KA1.out | with_reducible exact HKP.out _ KA2.out | with_reducible exact HKP.out _ hkb6 | with_reducible exact HKS'.out _ _ _ (HKS'.out _ _ _ (HKS'.out _ _ _ (HKS'.out _ _ _ (HKS'.out _ _ _ (HKP.out _ hkb6))))) | with_reducible exact HKS'.out _ _ _ (HKS'.out _ _ _ (HKS'.out _ _ _ (HKS'.out _ _ _ (HKP.out _ hkb6)))) | with_reducible exact HKP.out _ hkb6 | with_reducible exact HKP.out _ KD0.out | with_reducible exact HKP.out _ KA0.out | with_reducible exact HKP.out _ KA1.out | with_reducible exact HKP.out _ KA2.out | fail)
        (first
          | (refine step_append_own2 _ rfl _ _ 31 (by rfl) B 62 i0 _ 5 48 Tryd.underlying31 HI0.out HZ0.out HZ1.out HZ2.out (by rfl) (by decide) (.slice SA ks sc) ks (flatE encS ss) (by rfl) (pw_own_below HS5.out (below_alloc (below_drew1 (Below.refl _ _)) _)) ⟨wc.heap.size, 0, none⟩ 1 1 (#[.int .i64 kd, .int .i64 a, .int .i64 c, .int .u64 0, .string ⟨#[]⟩] : Array Value).toList (by rfl) (by rfl) (World.news_of_block (heap_alloc_new wc.drew _)) HON.out (by unfold maxLen; omega) (by omega) (by have := hBc; simp; omega) ?_; (intro v6 w6 hown6 hg6 hv6; obtain ⟨g6, c6, e6, hb6⟩ := own_formS hown6; subst e6; have hkb6 : KeptB wc w6 b g h (Value.slice SA ks sc).ownBlock := KeptB.grown KA0.out hg6 (by simp; omega) (by simp; omega) (by simp; omega) HNB.out HNG.out HNH.out; have HO6 := Lib.hid hown6; have HG6 := Lib.hid hg6; obtain ⟨r0, r1, r2, r3, r5, y0, y1, y2, y3, y5⟩ := HTT.out _ hkb6; clear hg6 hown6 hv6))
          | fail)
      all_goals (go_wp2_with fail; go_end0)
      all_goals obtain ⟨z1, z2, z3⟩ := do_end (q1 := q1) (q2 := q2) (q3 := q3) HKB.out hkb6 (by first | exact below_drew1 (below_alloc (Below.refl _ _) _) | exact below_alloc (below_drew1 (Below.refl _ _)) _) HG6.out HS5.out HM5.out HO6.out HN5.out HC5.out HQN.out HKM.out HKS.out HBW.out hBb hBc
      all_goals exact ⟨rfl, z1, z2, HKT.out.trans z3⟩
    · have hD : D = ⟨⟨l, lv, nx, nw⟩, ms, ss⟩ := by rw [HDO.out, if_neg hq]
      subst hD
      have hq2 : (qe == 0) = false := by rw [beq_eq_false_iff_ne]; exact hq
      have HP := Lib.hid (show PsAt wc B b ⟨⟨l, lv, nx, nw⟩, ms, ss⟩ from ⟨A, cap, MA, mc, SA, sc, by dsimp only; rw [HN.out, HKM.out, HKS.out]; exact kb, by dsimp only; rw [HN.out]; exact HCP.out, HR.out.below HB5.out, by dsimp only; rw [HKM.out]; exact hm5, by dsimp only; rw [HKS.out]; exact hs5, hBb⟩)
      have HBW := Lib.hid hbw
      clear kb kh hm5 hs5 hbw HDO HAP HKG HK HM HS HS1 HR HT HBN HB5 HC5 HN5
      go_wp2_with fail
      go_end0
      exact ⟨rfl, HP.out, HBW.out, HKT.out⟩
/-! ## the same, of a planner in memory -/
def SmallT (t : Tr) : Prop := t.l.length ≤ 1000000 ∧ ∀ x ∈ t.l, x.name.size ≤ 1000000
theorem small_put {t : Tr} (h : SmallT t) (a : Int) (f : Nd → Nd) (hf : ∀ x : Nd, (f x).name.size ≤ x.name.size) : SmallT (putN t a f) := by
  unfold putN SmallT
  dsimp only
  refine ⟨by rw [List.length_set]; exact h.1, fun x hx => ?_⟩
  rcases List.mem_or_eq_of_mem_set hx with hx | rfl
  · exact h.2 x hx
  · refine Nat.le_trans (hf _) ?_
    by_cases hp : plc t.l a < t.l.length
    · rw [getD_get hp]; exact h.2 _ (List.getElem_mem _)
    · rw [List.getD_eq_getElem?_getD, List.getElem?_eq_none (by omega)]; decide
theorem small_apply {t : Tr} {s : St} (h : SmallT t) (hs : s.text.size ≤ 1000000) (h0 : (applyN t s).2 = 0) : SmallT (applyN t s).1 := by
  refine ⟨by have := (apply_right h0).2.len; omega, ?_⟩
  unfold applyN at h0 ⊢
  split
  · rename_i c; rw [if_pos c] at h0; cases h0
  rename_i c; rw [if_neg c] at h0
  split
  · rename_i c1; rw [if_pos c1] at h0
    unfold makeN at h0 ⊢
    split
    · rename_i c2; rw [if_pos c2] at h0; cases h0
    rename_i c2; rw [if_neg c2] at h0
    split
    · rename_i c3; rw [if_pos c3] at h0; cases h0
    intro x hx
    rcases List.mem_append.1 hx with hx | hx
    · exact h.2 x hx
    · rw [List.mem_singleton] at hx
      rw [hx]
      split
      · exact hs
      · exact Nat.zero_le _
  rename_i c1; rw [if_neg c1] at h0
  split
  · rename_i c2; rw [if_pos c2] at h0
    unfold moveN at h0 ⊢
    split
    · rename_i c3; rw [if_pos c3] at h0; cases h0
    rename_i c3; rw [if_neg c3] at h0
    split
    · rename_i c4; rw [if_pos c4] at h0; cases h0
    rename_i c4; rw [if_neg c4] at h0
    split
    · rename_i c5; rw [if_pos c5] at h0; cases h0
    exact (small_put h s.a (setPar s.b) (fun x => Nat.le_refl _)).2
  rename_i c2; rw [if_neg c2] at h0
  split
  · rename_i c3; rw [if_pos c3] at h0; cases h0
  rename_i c3; rw [if_neg c3] at h0
  split
  · rename_i c4; rw [if_pos c4] at h0; cases h0
  rename_i c4; rw [if_neg c4] at h0
  split
  · exact h.2
  rename_i c5; rw [if_neg c5] at h0
  split
  · exact h.2
  rename_i c6; rw [if_neg c6] at h0
  unfold changeN at h0 ⊢
  split
  · rename_i c7; rw [if_pos c7] at h0; cases h0
  rename_i c7; rw [if_neg c7] at h0
  split
  · rename_i c8; rw [if_pos c8] at h0; cases h0
  rename_i c8; rw [if_neg c8] at h0
  split
  · rename_i c9; rw [if_pos c9] at h0; cases h0
  rename_i c9; rw [if_neg c9] at h0
  split
  · intro x hx
    exact h.2 x (List.mem_filter.1 hx).1
  split
  · exact (small_put h s.a setGhost (fun x => Nat.zero_le _)).2
  rename_i c10 c11; rw [if_neg c10, if_neg c11] at h0
  split
  · rename_i c12; rw [if_pos c12] at h0; cases h0
  exact (small_put h s.a (setPin s.b) (fun x => Nat.le_refl _)).2
theorem small_do {s : Ps} {st : St} (h : SmallT s.t) (hs : st.text.size ≤ 1000000) : SmallT (doN s st).t := by
  unfold doN
  split
  · rename_i h0; exact small_apply h hs h0
  · exact h
theorem do_len (s : Ps) (st : St) : (doN s st).ss.length ≤ s.ss.length + 1 ∧ (doN s st).ms = s.ms := by
  unfold doN
  split
  · exact ⟨by simp, rfl⟩
  · exact ⟨by omega, rfl⟩
theorem do_ps (we : World) (hT : Tabs we) (b : Nat) (s : Ps) (kd a c : Int) (w : World) (hE : Below we.heap.size we w) (hp : PsAt w we.heap.size b s) (hS : SmallT s.t) (hss : s.ss.length ≤ 1099511627776) :
    Calls Tryd.prog 45 #[.pointer (some ⟨b, 0, none⟩), .int .i64 kd, .int .i64 a, .int .i64 c] w fun e w' => e = .returned (.tuple #[]) ∧ PsAt w' we.heap.size b (doN s (st3 kd a c)) ∧ Below we.heap.size we w' ∧ KeepT w w' := by
  obtain ⟨⟨l, lv, nx, nw⟩, ms, ss⟩ := s
  obtain ⟨A, cap, MA, mc, SA, sc, hk, hc, hn, hm, hs, hB⟩ := hp
  refine (tdo_any we.heap.size b A cap l lv nx nw MA mc ms SA sc ss kd a c w hS.1 hc (hT.below hE) hS.2 hn hk hm hs hss hB hE.size).mono ?_
  rintro e w' ⟨h1, h2, h3, h4⟩
  exact ⟨h1, h2, hE.trans h3, h4⟩
end Go.Proofs.YtfdhehjfbcddgaaDoor.Pr
end
