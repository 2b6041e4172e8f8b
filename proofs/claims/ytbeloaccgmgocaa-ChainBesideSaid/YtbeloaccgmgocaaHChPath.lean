/- chain.path: the links from one down, by a range over chain.down's function. Condition: the links are not more than a million. -/
import Derived.Test.YtbeloaccgmgocaaHChHas
import Derived.Test.YtbeloaccgmgocaaHFlat0
import Derived.Test.YtbeloaccgmgocaaRange
import Derived.Test.YtbeloaccgmgocaaPerm
import Derived.RangeFuncNested
import Derived.RangeFuncBound
import Derived.Shelf.Abstract
import Derived.WalkKit
import Derived.OwnWalkIn
import Derived.TacticsInMore
import Derived.LoopNIn
import Derived.LoopIn
namespace Go.Proofs.Ytbeloaccgmgocaa.Pr
open Go.RowKit Go.Proofs.YtbeloaccgmgocaaW.PrintWords Go.Proofs.YtbeloaccgmgocaaW.PrintLast Go.Proofs.Ytbeloaccgmgocaa Go.Shelf
set_option linter.unusedVariables false
attribute [local go_sem] Oper.semAt_some
/-- the links from one down; ErrNone (4): a link is not there; ErrForm (2): they go round -/
def pathL (l : List SL) : Nat → Int → List SL → List SL × Int
  | 0, _, _ => ([], 2)
  | n + 1, id, out => match l.findIdx? (fun x => x.f0 == id) with
    | none => ([], 4)
    | some j => if hasL out id = true then ([], 2) else if (l.getD j ⟨0, 0, ⟨0, []⟩⟩).f1 = 0 then (out ++ [l.getD j ⟨0, 0, ⟨0, []⟩⟩], 0) else pathL l n (l.getD j ⟨0, 0, ⟨0, []⟩⟩).f1 (out ++ [l.getD j ⟨0, 0, ⟨0, []⟩⟩])
abbrev LK := SL × Option Addr × Nat
def encK (x : LK) : List Value := [.int .i64 x.1.f0, .int .i64 x.1.f1, .int .i64 x.1.f2.f0, .slice x.2.1 x.1.f2.f1.length x.2.2]
theorem encK_len (x : LK) : (encK x).length = 4 := rfl
theorem infoL : (Try.prog.info? 32).map (fun i => (i.zero, i.size, i.bytes)) = some (some (.agg #[.int .i64 0, .int .i64 0, .int .i64 0, .slice none 0 0]), 4, 48) := by kernel_rfl
abbrev ownK (w : World) (base : Nat) (v : Value) (l : List LK) : Prop := w.ownsRow base 32 4 v l.length (flatE encK l)
def FoundAll (w : World) (l : List LK) : Prop := ∀ x ∈ l, FoundAt w x.1 x.2.1 x.2.2
theorem FoundAt.below {w w' : World} {x : SL} {B : Option Addr} {c : Nat} (h : FoundAt w x B c) (hb : Below w.heap.size w w') : FoundAt w' x B c := ⟨h.1, Kd.C_below h.2 hb⟩
theorem FoundAll.below {w w' : World} {l : List LK} (h : FoundAll w l) (hb : Below w.heap.size w w') : FoundAll w' l := fun x hx => (h x hx).below hb
theorem links_of_own {w : World} {base : Nat} {A : Option Addr} {n cap : Nat} {l : List LK} (h : ownK w base (.slice A n cap) l) (hf : FoundAll w l) : LinksAt w A (l.map (·.1)) := by
  intro hp
  rw [List.length_map] at hp
  rcases h.2 with ⟨_, h0⟩ | ⟨g, c, cur, hv, hb, hg, _⟩
  · omega
  · injection hv with ha _ _
    subst ha
    have hc := h.cells (g := g) rfl
    have had : ∀ j, (⟨g, 0, none⟩ : Addr).add j = ⟨g, 0 + j, none⟩ := fun j => by unfold Addr.add; split <;> simp_all
    refine ⟨g, 0, rfl, (Array.getElem?_eq_some_iff.1 hg).1, fun i hi => ?_⟩
    rw [List.length_map] at hi
    have e0 := hc _ _ (flatE_get encK_len l i hi 0 (by omega))
    have e1 := hc _ _ (flatE_get encK_len l i hi 1 (by omega))
    have e2 := hc _ _ (flatE_get encK_len l i hi 2 (by omega))
    have e3 := hc _ _ (flatE_get encK_len l i hi 3 (by omega))
    rw [had] at e0 e1 e2 e3
    have hx := hf l[i] (List.getElem_mem hi)
    rw [List.getElem_map]
    refine ⟨l[i].2.1, l[i].2.2, ?_, ?_, ?_, ?_, hx.1, hx.2⟩
    · rw [Nat.zero_add] at e0 ⊢; exact e0
    · rw [Nat.zero_add] at e1 ⊢; exact e1
    · rw [Nat.zero_add] at e2 ⊢; exact e2
    · rw [Nat.zero_add] at e3 ⊢; exact e3
theorem nodup_le (s : List Int) : ∀ t : List Int, s.Nodup → (∀ x ∈ s, x ∈ t) → s.length ≤ t.length := by
  induction s with
  | nil => intro t _ _; exact Nat.zero_le _
  | cons x s ih =>
    intro t hn hs
    rw [List.nodup_cons] at hn
    have hx := hs x (by simp)
    have := ih (t.erase x) hn.2 (fun y hy => (List.mem_erase_of_ne (fun e => hn.1 (by rw [← e]; exact hy))).2 (hs y (by simp [hy])))
    rw [List.length_erase_of_mem hx] at this
    have hp : 0 < t.length := List.length_pos_of_mem hx
    rw [List.length_cons]; omega
def lenAt (W : World) (b : Nat) : Nat := match W.cell? ⟨b, 0, none⟩ with
  | some (.slice _ n _) => n
  | _ => 0
theorem lenAt_of {W : World} {b : Nat} {t : TypeId} {A : Option Addr} {n c : Nat} (h : Blk W b t #[.slice A n c]) : lenAt W b = n := by
  have := h.cell 0
  unfold lenAt
  rw [this]
  rfl
/-- what lies when a round has said that there is no path -/
def SaysNo (rec : LoopState → Option Code → Loop) (w : World) (B D : Nat) (err : Int) (W : World) : Prop :=
  LoopAt W (D + 1) (rec .done (some .ret)) ∧ DefAt W D ∧ Below B w W ∧ Blk W B 30 #[.slice none 0 0] ∧ Blk W (B + 1) 27 #[.int .i64 err]
/-- what lies when a round has been handed a link -/
def SaysOn (rec : LoopState → Option Code → Loop) (w : World) (B D X : Nat) (cur : Int) (sl : Value) (out : List LK) (x : LK) (A' : Option Addr) (c' : Nat) (W : World) : Prop :=
  LoopAt W (D + 1) (rec .ready none) ∧ DefAt W D ∧ Below B w W ∧ Blk W B 30 #[.slice none 0 0] ∧ Blk W (B + 1) 27 #[.int .i64 0] ∧ Blk W (B + 1 + 1) 30 #[.slice A' (out.length + 1) c'] ∧ Blk W (B + 1 + 1 + 1) 30 #[sl] ∧ Blk W (B + 1 + 1 + 1 + 1) 3 #[.int .i64 cur] ∧
  W.ownsRow (D + 2) 32 4 (.slice A' (out.length + 1) c') (out.length + 1) (flatE encK (out ++ [x])) ∧ FoundAll w (out ++ [x]) ∧ Blk W X 32 (encK x).toArray ∧ X < W.heap.size
set_option maxRecDepth 100000 in
theorem down_any (A : Option Addr) (n cap : Nat) (a : Int) (w : World) :
    Calls Try.prog 44 #[.slice A n cap, .int .i64 a] w fun e w' => e = .returned (.func (.func 60) #[] #[.pointer (some ⟨w.heap.size, 0, none⟩), .pointer (some ⟨w.heap.size + 1, 0, none⟩)]) ∧ w' = (w.alloc (.cells #[.slice A n cap] 30)).alloc (.cells #[.int .i64 a] 3) := by
  go_enter Try.func44, Try.ntmps44
  go_wp2
  go_ret
  exact ⟨by simp, rfl⟩
set_option maxRecDepth 100000 in
set_option maxHeartbeats 4000000 in
theorem path_any (A : Option Addr) (cap : Nat) (l : List SL) (a : Int) (w : World) (hl : l.length ≤ 1000000) (hr : LinksAt w A l) :
    Calls Try.prog 25 #[.slice A l.length cap, .int .i64 a] w fun e w' => ∃ A' c', e = .returned (.tuple #[.slice A' (pathL l (l.length + 1) a []).1.length c', .int .i64 (pathL l (l.length + 1) a []).2]) ∧ (pathL l (l.length + 1) a []).1.length ≤ c' ∧ LinksAt w' A' (pathL l (l.length + 1) a []).1 ∧ Below w.heap.size w w' := by
  obtain ⟨n, hn⟩ : ∃ n, n = l.length := ⟨_, rfl⟩
  have hd := fun w => down_any A n cap a w
  rw [← hn]
  have HD := Lib.hid hd
  have HR := Lib.hid hr
  have HN := Lib.hid hn
  clear hd hr hn
  refine (callsIn_wide (n := 3)).1 ?_
  refine callsIn_of_wp_marks Try.func25 rfl trivial ?_ rfl
  simp only [Try.ntmps25, List.size_toArray, List.length_cons, List.length_nil, Nat.reduceAdd, Nat.reduceSub, Array.replicate_succ, Array.replicate_zero, List.push_toArray, List.append_toArray, List.nil_append, List.cons_append]
  gi_wp2_with fail
  refine ⟨trivial, (callsIn_wide.2 (HD.out _)).mono ?_⟩
  rintro e w0 ⟨rfl, rfl⟩
  gi_wp2_with fail
  have k0 := (((Blk.new w 30 #[.slice none 0 0]).alloc (.cells #[.int .i64 0] 27)).alloc (.cells #[.slice none 0 0] 30)).alloc (.cells #[.slice A n cap] 30) |>.alloc (.cells #[.int .i64 a] 3)
  have k1 := ((blk_new1 w (.cells #[.slice none 0 0] 30) 27 #[.int .i64 0]).alloc (.cells #[.slice none 0 0] 30)).alloc (.cells #[.slice A n cap] 30) |>.alloc (.cells #[.int .i64 a] 3)
  have k2 := ((Blk.new ((w.alloc (.cells #[.slice none 0 0] 30)).alloc (.cells #[.int .i64 0] 27)) 30 #[.slice none 0 0]).alloc (.cells #[.slice A n cap] 30)).alloc (.cells #[.int .i64 a] 3)
  have k3 := (Blk.new (((w.alloc (.cells #[.slice none 0 0] 30)).alloc (.cells #[.int .i64 0] 27)).alloc (.cells #[.slice none 0 0] 30)) 30 #[.slice A n cap]).alloc (.cells #[.int .i64 a] 3)
  have k4 := Blk.new ((((w.alloc (.cells #[.slice none 0 0] 30)).alloc (.cells #[.int .i64 0] 27)).alloc (.cells #[.slice none 0 0] 30)).alloc (.cells #[.slice A n cap] 30)) 3 #[.int .i64 a]
  have kb := (((((Below.refl w.heap.size w).alloc (Nat.le_refl _) (.cells #[.slice none 0 0] 30)).alloc (by simp) (.cells #[.int .i64 0] 27)).alloc (by simp; omega) (.cells #[.slice none 0 0] 30)).alloc (by simp; omega) (.cells #[.slice A n cap] 30)).alloc (by simp; omega) (.cells #[.int .i64 a] 3)
  simp only [World.size_alloc] at k2 k3 k4
  have hD : (((((w.alloc (.cells #[.slice none 0 0] 30)).alloc (.cells #[.int .i64 0] 27)).alloc (.cells #[.slice none 0 0] 30)).alloc (.cells #[.slice A n cap] 30)).alloc (.cells #[.int .i64 a] 3)).heap.size = w.heap.size + 5 := by simp
  have kk := And.intro k0 (And.intro k1 (And.intro k2 (And.intro k3 (And.intro k4 (And.intro kb hD)))))
  clear k0 k1 k2 k3 k4 kb hD
  revert kk
  generalize (((((w.alloc (.cells #[.slice none 0 0] 30)).alloc (.cells #[.int .i64 0] 27)).alloc (.cells #[.slice none 0 0] 30)).alloc (.cells #[.slice A n cap] 30)).alloc (.cells #[.int .i64 a] 3)) = W0
  rintro ⟨k0, k1, k2, k3, k4, kb, hD⟩
  obtain ⟨B, hB⟩ : ∃ B, B = w.heap.size := ⟨_, rfl⟩
  rw [← hB] at k0 k1 k2 k3 k4 kb hD ⊢
  refine range_stmt rfl (by omega) (gf := 60) (lb := #[.pointer (some ⟨B + 1 + 1 + 1, 0, none⟩), .pointer (some ⟨B + 1 + 1 + 1 + 1, 0, none⟩)]) rfl trivial (enters_of Try.func60 (by kernel_rfl) rfl) ?_
  intro fn _ rec hrec
  have q0 := (k0.alloc (.deferred (some []))).alloc (.loop (rec .ready none))
  have q1 := (k1.alloc (.deferred (some []))).alloc (.loop (rec .ready none))
  have q2 := (k2.alloc (.deferred (some []))).alloc (.loop (rec .ready none))
  have q3 := (k3.alloc (.deferred (some []))).alloc (.loop (rec .ready none))
  have q4 := (k4.alloc (.deferred (some []))).alloc (.loop (rec .ready none))
  have qb := (kb.alloc (by omega) (Obj.deferred (some []))).alloc (by simp; omega) (.loop (rec .ready none))
  have ql : ((W0.alloc (.deferred (some []))).alloc (.loop (rec .ready none))).heap[W0.heap.size + 1]? = some (.loop (rec .ready none)) := by
    have := World.alloc_heap_new (W0.alloc (.deferred (some []))) (.loop (rec .ready none))
    rwa [World.size_alloc] at this
  have qd : ((W0.alloc (.deferred (some []))).alloc (.loop (rec .ready none))).heap[W0.heap.size]? = some (.deferred (some [])) := (Below.heap_alloc _ _ _ (by simp)).trans (World.alloc_heap_new W0 _)
  have hsz1 : ((W0.alloc (.deferred (some []))).alloc (.loop (rec .ready none))).heap.size = W0.heap.size + 2 := by simp
  have kk := And.intro q0 (And.intro q1 (And.intro q2 (And.intro q3 (And.intro q4 (And.intro qb (And.intro ql (And.intro qd hsz1)))))))
  clear q0 q1 q2 q3 q4 qb ql qd hsz1
  revert kk
  generalize ((W0.alloc (.deferred (some []))).alloc (.loop (rec .ready none))) = W1
  rintro ⟨q0, q1, q2, q3, q4, qb, ql, qd, hsz1⟩
  obtain ⟨D, hDD⟩ : ∃ D, D = W0.heap.size := ⟨_, rfl⟩
  rw [← hDD] at ql qd hsz1 hrec hD ⊢
  have hBD : B + 5 ≤ D := by omega
  have hW1 : D + 2 ≤ W1.heap.size := by omega
  have HD1 := Lib.hid hD
  have HREC := Lib.hid hrec
  have HBW := Lib.hid hB
  have HQ := Lib.hid (And.intro q0 (And.intro q1 (And.intro q2 (And.intro q3 (And.intro q4 (And.intro qb (And.intro ql qd)))))))
  clear k0 k1 k2 k3 k4 kb hDD hsz1 hrec hD q0 q1 q2 q3 q4 qb ql qd hB
  refine CallsIn.mono (R := fun e W => ∃ (st : LoopState) (jump : Option Code), (∃ v, e = Ending.returned v) ∧ st ≠ .busy ∧ LoopAt W (D + 1) (rec st jump) ∧ DefAt W D ∧ Below B w W ∧
    ((jump = none ∧ ∃ (A' : Option Addr) (c' : Nat) (out : List LK), Blk W (B + 1 + 1) 30 #[.slice A' out.length c'] ∧ Blk W B 30 #[.slice none 0 0] ∧ Blk W (B + 1) 27 #[.int .i64 0] ∧ ownK W (D + 2) (.slice A' out.length c') out ∧ FoundAll w out ∧ pathL l (n + 1) a [] = (out.map (·.1), 0)) ∨
     (jump = some .ret ∧ ∃ err, Blk W B 30 #[.slice none 0 0] ∧ Blk W (B + 1) 27 #[.int .i64 err] ∧ pathL l (n + 1) a [] = ([], err)))) ?walk ?post
  case post =>
    rintro e W ⟨st, jump, ⟨v, rfl⟩, hst, hlo, hde, hbe, hcase⟩
    refine ⟨v, st, jump, rfl, hst, hlo, ?_⟩
    rcases hcase with ⟨rfl, A', c', out, hB2, hB0, hB1, how, hfa, hp⟩ | ⟨rfl, err, hB0, hB1, hp⟩
    · have hle : out.length ≤ c' := own_le how
      have b0 := hB0.putObj (l := D + 1) (by omega) (.loop (rec .exhausted none))
      have b1 := hB1.putObj (l := D + 1) (by omega) (.loop (rec .exhausted none))
      have b2 := hB2.putObj (l := D + 1) (by omega) (.loop (rec .exhausted none))
      have bd := hde.putObj (k := D + 1) (by omega) (.loop (rec .exhausted none))
      have bb := below_putObj hbe hlo.lt (by omega) (.loop (rec .exhausted none))
      have bo : (W.putObj (D + 1) (.loop (rec .exhausted none))).ownsRow (D + 2) 32 4 (.slice A' out.length c') out.length (flatE encK out) := own_move how fun k hk => World.putObj_heap_other (by have := own_base how k hk; omega)
      have hDW : D + 1 < (W.putObj (D + 1) (.loop (rec .exhausted none))).heap.size := by simp; exact hlo.lt
      clear hB0 hB1 hB2 hde hbe how hlo hst
      revert b0 b1 b2 bd bb bo hDW
      generalize (W.putObj (D + 1) (.loop (rec .exhausted none))) = W'
      intro b0 b1 b2 bd bb bo hDW
      have e0 := b0.cell 0
      have e1 := b1.cell 0
      have e2 := b2.cell 0
      have g0 := b0.frozen 0
      have g1 := b1.frozen 0
      rw [show (#[Value.slice none 0 0] : Array Value)[0]? = some (.slice none 0 0) from rfl] at e0
      rw [show (#[Value.int IntKind.i64 0] : Array Value)[0]? = some (.int .i64 0) from rfl] at e1
      rw [show (#[Value.slice A' out.length c'] : Array Value)[0]? = some (.slice A' out.length c') from rfl] at e2
      have HB0 := Lib.hid b0
      have HB1 := Lib.hid b1
      have HBD := Lib.hid bd
      have HBB := Lib.hid bb
      have HBO := Lib.hid bo
      have HFA := Lib.hid hfa
      have HP := Lib.hid hp
      have HLE := Lib.hid hle
      clear b0 b1 b2 bd bb bo hfa hp hle
      gi_wp2_with fail
      have kd := (HBD.out.far (p := ⟨B, 0, none⟩) (by dsimp only; omega) (.slice A' out.length c')).far (p := ⟨B + 1, 0, none⟩) (by dsimp only; omega) (.int .i64 0)
      have k0 := (((HB0.out.set_ 0 (.slice A' out.length c')).far (p := ⟨B + 1, 0, none⟩) (by dsimp only; omega) (.int .i64 0)).putObj (l := D) (by omega) (.deferred none)).cell 0
      have k1 := (((HB1.out.far (p := ⟨B, 0, none⟩) (by dsimp only; omega) (.slice A' out.length c')).set_ 0 (.int .i64 0)).putObj (l := D) (by omega) (.deferred none)).cell 0
      have kb := below_putObj ((HBB.out.setCell (p := ⟨B, 0, none⟩) (Nat.le_refl _) (.slice A' out.length c')).setCell (p := ⟨B + 1, 0, none⟩) (by dsimp only; omega) (.int .i64 0)) kd.lt (by omega) (.deferred none)
      have ko : ((((W'.setCell ⟨B, 0, none⟩ (.slice A' out.length c')).setCell ⟨B + 1, 0, none⟩ (.int .i64 0))).putObj D (.deferred none)).ownsRow (D + 2) 32 4 (.slice A' out.length c') out.length (flatE encK out) := own_move HBO.out fun k hk => by
        have := own_base HBO.out k hk
        exact (World.putObj_heap_other (by omega)).trans ((Below.heap_setCell _ _ _ _ (by dsimp only; omega)).trans (Below.heap_setCell _ _ _ _ (by dsimp only; omega)))
      refine ⟨by simp, .inl ⟨_, _, rfl, run_takeDeferred kd, ?_⟩⟩
      refine ⟨.tuple #[.slice A' out.length c', .int .i64 0], ?_, ?_⟩
      · simp at k0 k1
        simp [results, Try.f25, go_sem, k0, k1]
      · rw [HP.out]
        refine ⟨A', c', by rw [List.length_map], by rw [List.length_map]; exact HLE.out, links_of_own ko (HFA.out.below (by rw [← HBW.out]; exact kb)), by rw [← HBW.out]; exact kb⟩
    · have b0 := hB0.putObj (l := D + 1) (by omega) (.loop (rec .exhausted (some .ret)))
      have b1 := hB1.putObj (l := D + 1) (by omega) (.loop (rec .exhausted (some .ret)))
      have bd := hde.putObj (k := D + 1) (by omega) (.loop (rec .exhausted (some .ret)))
      have bb := below_putObj hbe hlo.lt (by omega) (.loop (rec .exhausted (some .ret)))
      have hDW : D + 1 < (W.putObj (D + 1) (.loop (rec .exhausted (some .ret)))).heap.size := by simp; exact hlo.lt
      clear hB0 hB1 hde hbe hlo hst
      show Code.wpIn _ _ _ .ret _ _ (W.putObj (D + 1) (.loop (rec .exhausted (some .ret))))
      revert b0 b1 bd bb hDW
      generalize (W.putObj (D + 1) (.loop (rec .exhausted (some .ret)))) = W'
      intro b0 b1 bd bb hDW
      have HB0 := Lib.hid b0
      have HB1 := Lib.hid b1
      have HBD := Lib.hid bd
      have HBB := Lib.hid bb
      have HP := Lib.hid hp
      clear b0 b1 bd bb hp
      gi_wp2_with fail
      have kd := HBD.out
      have k0 := (HB0.out.putObj (l := D) (by omega) (.deferred none)).cell 0
      have k1 := (HB1.out.putObj (l := D) (by omega) (.deferred none)).cell 0
      have kb := below_putObj HBB.out kd.lt (by omega) (.deferred none)
      refine ⟨by simp, .inl ⟨_, _, rfl, run_takeDeferred kd, ?_⟩⟩
      refine ⟨.tuple #[.slice none 0 0, .int .i64 err], ?_, ?_⟩
      · simp at k0 k1
        simp [results, Try.f25, go_sem, k0, k1]
      · rw [HP.out]
        exact ⟨none, 0, rfl, Nat.le_refl _, (fun h => by simp at h), by rw [← HBW.out]; exact kb⟩
  case walk =>
    refine callsIn_of_wp Try.func60 rfl trivial ?_ rfl
    simp only [Try.ntmps60, List.size_toArray, List.length_cons, List.length_nil, Nat.reduceAdd, Nat.reduceSub, Array.replicate_succ, Array.replicate_zero, List.push_toArray, List.append_toArray, List.nil_append, List.cons_append]
    gi_wp2_with fail
    gi_loopw [5] (fun _ wr => ∃ (cur : Int) (A' : Option Addr) (c' : Nat) (out : List LK), Hid (Blk wr B 30 #[.slice none 0 0]) ∧ Hid (Blk wr (B + 1) 27 #[.int .i64 0]) ∧ Hid (Blk wr (B + 1 + 1) 30 #[.slice A' out.length c']) ∧ Hid (Blk wr (B + 1 + 1 + 1) 30 #[.slice A n cap]) ∧ Hid (Blk wr (B + 1 + 1 + 1 + 1) 3 #[.int .i64 cur]) ∧ Hid (ownK wr (D + 2) (.slice A' out.length c') out) ∧ Hid (FoundAll w out) ∧ Hid (LoopAt wr (D + 1) (rec .ready none)) ∧ Hid (DefAt wr D) ∧ Hid (Below B w wr) ∧ D + 2 ≤ wr.heap.size ∧ Hid (pathL l (n + 1) a [] = pathL l (n + 1 - out.length) cur (out.map (·.1))) ∧ Hid ((out.map (·.1.f0)).Nodup ∧ ∀ x ∈ out, x.1 ∈ l)) (fun _ wr => n + 1 - lenAt wr (B + 1 + 1))
    case atStart =>
      obtain ⟨q0, q1, q2, q3, q4, qb, ql, qd⟩ := HQ.out
      exact ⟨a, none, 0, [], Lib.hid q0, Lib.hid q1, Lib.hid q2, Lib.hid q3, Lib.hid q4, Lib.hid (own_nil _ _ _ _), Lib.hid (fun x hx => by cases hx), Lib.hid ql, Lib.hid qd, Lib.hid qb, hW1, Lib.hid rfl, Lib.hid ⟨List.nodup_nil, fun x hx => by cases hx⟩⟩
    case round =>
      obtain ⟨cur, A', c', out, r0, r1, r2, r3, r4, ow, fa, lo, de, be, hsz, pl, nd⟩ := hrel
      clear HQ
      have d3 := r3.out.cell 0
      have d4 := r4.out.cell 0
      rw [show (#[Value.slice A n cap] : Array Value)[0]? = some (.slice A n cap) from rfl] at d3
      rw [show (#[Value.int IntKind.i64 cur] : Array Value)[0]? = some (.int .i64 cur) from rfl] at d4
      have hlr := fun (w' : World) (h : Below B w w') => HR.out.below (by rw [← HBW.out]; exact h)
      have HLR := Lib.hid hlr
      clear hlr
      cases hf : l.findIdx? (fun x => x.f0 == cur) with
      | none =>
        have hfind := find_none A cap l cur wr hl (HLR.out wr be.out) hf
        rw [← HN.out] at hfind
        have HF := Lib.hid hf
        have HFI := Lib.hid hfind
        clear hf hfind
        gi_wp2_with fail
        refine ⟨trivial, (callsIn_wide.2 HFI.out).mono ?_⟩
        rintro e w1 ⟨rfl, hb1⟩
        obtain ⟨W2, hW2⟩ : ∃ W2, W2 = w1.alloc (.cells #[.int .i64 0, .int .i64 0, .int .i64 0, .slice none 0 0] 32) := ⟨_, rfl⟩
        have hb2 : Below wr.heap.size wr W2 := by rw [hW2]; exact hb1.alloc hb1.size _
        have s0 := Lib.hid (r0.out.below hb2 (by omega))
        have s1 := Lib.hid (r1.out.below hb2 (by omega))
        have s4 := Lib.hid (r4.out.below hb2 (by omega))
        have slo := Lib.hid (lo.out.below hb2 (by omega))
        have sde := Lib.hid (de.out.below hb2 (by omega))
        have sbe := Lib.hid (be.out.trans (hb2.mono (by omega)))
        have e4 := s4.out.cell 0
        rw [show (#[Value.int IntKind.i64 cur] : Array Value)[0]? = some (.int .i64 cur) from rfl, hW2] at e4
        have HW2 := Lib.hid hW2
        clear hW2
        have e0 := s0.out.cell 0
        have e1 := s1.out.cell 0
        have g0 := s0.out.frozen 0
        have g1 := s1.out.frozen 0
        rw [show (#[Value.slice none 0 0] : Array Value)[0]? = some (.slice none 0 0) from rfl] at e0
        rw [show (#[Value.int IntKind.i64 0] : Array Value)[0]? = some (.int .i64 0) from rfl] at e1
        have hY : YieldAt Fence.wide 1 Try.prog (D + 1) #[.int .i64 cur, .pointer none] W2 (fun e W => e = .returned (.bool false) ∧ SaysNo rec w B D 4 W) := by
          refine yield_rec HREC.out slo.out trivial rfl ?_
          clear e4 e0 e1 g0 g1
          gi_wp2_with fail
          refine ⟨slo.out.alloc _, ?_⟩
          obtain ⟨W3, hW3⟩ : ∃ W3, W3 = (W2.alloc (.cells #[.int .i64 cur] 3)).putObj (D + 1) (.loop (rec .busy none)) := ⟨_, rfl⟩
          rw [← hW3]
          have hl2 : D + 1 < W2.heap.size := slo.out.lt
          have t0 : Blk W3 B 30 #[.slice none 0 0] := by rw [hW3]; exact (s0.out.alloc _).putObj (by omega) _
          have t1 : Blk W3 (B + 1) 27 #[.int .i64 0] := by rw [hW3]; exact (s1.out.alloc _).putObj (by omega) _
          have tlo : LoopAt W3 (D + 1) (rec .busy none) := by rw [hW3]; exact (slo.out.alloc _).put _
          have tde : DefAt W3 D := by rw [hW3]; exact (sde.out.alloc _).putObj (by omega) _
          have tbe : Below B w W3 := by rw [hW3]; exact below_putObj (sbe.out.alloc (by omega) _) (by simp; omega) (by omega) _
          have hsz3 : D + 1 < W3.heap.size := tlo.lt
          clear hW3
          have e0 := t0.cell 0
          have e1 := t1.cell 0
          have g0 := t0.frozen 0
          have g1 := t1.frozen 0
          rw [show (#[Value.slice none 0 0] : Array Value)[0]? = some (.slice none 0 0) from rfl] at e0
          rw [show (#[Value.int IntKind.i64 0] : Array Value)[0]? = some (.int .i64 0) from rfl] at e1
          have T0 := Lib.hid t0
          have T1 := Lib.hid t1
          have TLO := Lib.hid tlo
          have TDE := Lib.hid tde
          have TBE := Lib.hid tbe
          clear t0 t1 tlo tde tbe
          gi_wp2_with fail
          have hlo4 := (TLO.out.far (p := ⟨B, 0, none⟩) (by simp; omega) (.slice none 0 0)).far (p := ⟨B + 1, 0, none⟩) (by simp; omega) (.int .i64 4)
          refine ⟨hlo4, hlo4.put _, ((TDE.out.far (p := ⟨B, 0, none⟩) (by simp; omega) _).far (p := ⟨B + 1, 0, none⟩) (by simp; omega) _).putObj (by omega) _, ?_, ?_, ?_⟩
          · exact below_putObj ((TBE.out.setCell (p := ⟨B, 0, none⟩) (Nat.le_refl _) _).setCell (p := ⟨B + 1, 0, none⟩) (by simp) _) hlo4.lt (by omega) _
          · exact ((T0.out.set_ 0 _).far (p := ⟨B + 1, 0, none⟩) (by simp) _).putObj (by omega) _
          · exact ((T1.out.far (p := ⟨B, 0, none⟩) (by simp) _).set_ 0 _).putObj (by omega) _
        obtain ⟨fn2, tmps2, assign2, body2, hy2, hR2⟩ := hY
        have HR2 := Lib.hid hR2
        clear hR2 e0 e1 g0 g1
        rw [HW2.out] at hy2
        gi_wp2_with fail
        rw [← HW2.out]
        refine HR2.out.mono ?_
        rintro e W ⟨rfl, hlo, hde, hbe, hB0, hB1⟩
        gi_wp2_with fail
        refine bodyPost_ret (results_none rfl _ _ _) rfl ?_
        refine ⟨.done, some .ret, ⟨_, rfl⟩, by simp, hlo, hde, hbe, .inr ⟨rfl, 4, hB0, hB1, ?_⟩⟩
        rw [pl.out]
        have hle : out.length ≤ n := by
          have := nodup_le (out.map (·.1.f0)) (l.map (·.f0)) nd.out.1 (fun x hx => by
            obtain ⟨y, hy, rfl⟩ := List.mem_map.1 hx
            exact List.mem_map.2 ⟨y.1, nd.out.2 y hy, rfl⟩)
          rw [List.length_map, List.length_map, ← HN.out] at this
          exact this
        rw [show n + 1 - out.length = (n - out.length) + 1 by omega, pathL, HF.out]
      | some j =>
        have hjl : j < l.length := (List.findIdx?_eq_some_iff_getElem.1 hf).1
        have hfind := find_some A cap l cur w wr (by rw [← HBW.out]; exact be.out) hl HR.out j hjl hf
        rw [← HN.out] at hfind
        have hx : l.getD j ⟨0, 0, ⟨0, []⟩⟩ = l[j] := by rw [List.getD_eq_getElem?_getD, List.getElem?_eq_getElem hjl]; rfl
        obtain ⟨x, hxx⟩ : ∃ x, x = l[j] := ⟨_, rfl⟩
        rw [← hxx] at hfind hx
        have HXL := Lib.hid (show x ∈ l by rw [hxx]; exact List.getElem_mem hjl)
        have HXC := Lib.hid (show x.f0 = cur by rw [hxx]; obtain ⟨_, hp, _⟩ := List.findIdx?_eq_some_iff_getElem.1 hf; exact eq_of_beq hp)
        have HF := Lib.hid hf
        have HX := Lib.hid hx
        obtain ⟨y0, hy0⟩ : ∃ y, y = x.f0 := ⟨_, rfl⟩
        obtain ⟨y1, hy1⟩ : ∃ y, y = x.f1 := ⟨_, rfl⟩
        obtain ⟨y2, hy2⟩ : ∃ y, y = x.f2.f0 := ⟨_, rfl⟩
        obtain ⟨m, hm⟩ : ∃ m, m = x.f2.f1.length := ⟨_, rfl⟩
        rw [← hy0, ← hy1, ← hy2, ← hm] at hfind
        have HFI := Lib.hid hfind
        have HY0 := Lib.hid hy0
        have HY1 := Lib.hid hy1
        have HY2 := Lib.hid hy2
        have HM := Lib.hid hm
        clear hf hfind hxx hx hjl hy0 hy1 hy2 hm
        gi_wp2_with fail
        refine ⟨trivial, (callsIn_wide.2 HFI.out).mono ?_⟩
        rintro e w1 ⟨B', cx, rfl, hfa, hb1⟩
        obtain ⟨W2, hW2⟩ : ∃ W2, W2 = w1.alloc (.cells #[.int .i64 y0, .int .i64 y1, .int .i64 y2, .slice B' m cx] 32) := ⟨_, rfl⟩
        have hb2 : Below wr.heap.size wr W2 := by rw [hW2]; exact hb1.alloc hb1.size _
        have hX1 : wr.heap.size ≤ w1.heap.size := hb1.size
        have hX2 : w1.heap.size < W2.heap.size := by rw [hW2]; simp
        have s0 := Lib.hid (r0.out.below hb2 (by omega))
        have s1 := Lib.hid (r1.out.below hb2 (by omega))
        have s2 := Lib.hid (r2.out.below hb2 (by omega))
        have s3 := Lib.hid (r3.out.below hb2 (by omega))
        have s4 := Lib.hid (r4.out.below hb2 (by omega))
        have sX : Hid (Blk W2 w1.heap.size 32 #[.int .i64 y0, .int .i64 y1, .int .i64 y2, .slice B' m cx]) := Lib.hid (by rw [hW2]; exact Blk.new w1 _ _)
        have slo := Lib.hid (lo.out.below hb2 (by omega))
        have sde := Lib.hid (de.out.below hb2 (by omega))
        have sbe := Lib.hid (be.out.trans (hb2.mono (by omega)))
        have sow := Lib.hid (pw_own_below ow.out hb2)
        have sfx := Lib.hid hfa
        have hvl := Lib.hid (own_lt ow.out)
        have e4 := s4.out.cell 0
        rw [show (#[Value.int IntKind.i64 cur] : Array Value)[0]? = some (.int .i64 cur) from rfl, hW2] at e4
        have HW2 := Lib.hid hW2
        obtain ⟨X, hX⟩ : ∃ X, X = w1.heap.size := ⟨_, rfl⟩
        rw [← hX] at hX1 hX2 sX
        have HXE := Lib.hid hX
        clear hW2 hX hb2
        have hlen : out.length ≤ n := by
          have := nodup_le (out.map (·.1.f0)) (l.map (·.f0)) nd.out.1 (fun x hx => by
            obtain ⟨y, hy, rfl⟩ := List.mem_map.1 hx
            exact List.mem_map.2 ⟨y.1, nd.out.2 y hy, rfl⟩)
          rw [List.length_map, List.length_map, ← HN.out] at this
          exact this
        have hnl : n ≤ 1000000 := by rw [HN.out]; exact hl
        obtain ⟨q, hq⟩ : ∃ q, q = hasL (out.map (·.1)) cur := ⟨_, rfl⟩
        have HQB := Lib.hid hq
        have hencx : (encK (x, B', cx)).toArray = #[.int .i64 y0, .int .i64 y1, .int .i64 y2, .slice B' m cx] := by unfold encK; rw [HY0.out, HY1.out, HY2.out, HM.out]
        have HEX := Lib.hid hencx
        have hY : YieldAt Fence.wide 1 Try.prog (D + 1) #[.int .i64 cur, .pointer (some ⟨X, 0, none⟩)] W2 (fun e W => (q = false ∧ e = .returned (.bool true) ∧ ∃ A2 c2, SaysOn rec w B D X cur (.slice A n cap) out (x, B', cx) A2 c2 W) ∨ (q = true ∧ e = .returned (.bool false) ∧ SaysNo rec w B D 2 W)) := by
          clear hq hencx e4 d3 d4 r0 r1 r2 r3 r4 ow lo de be hfa hb1
          refine yield_rec HREC.out slo.out trivial rfl ?_
          gi_wp2_with fail
          refine ⟨slo.out.alloc _, ?_⟩
          obtain ⟨W3, hW3⟩ : ∃ W3, W3 = (W2.alloc (.cells #[.int .i64 cur] 3)).putObj (D + 1) (.loop (rec .busy none)) := ⟨_, rfl⟩
          rw [← hW3]
          have hl2 : D + 1 < W2.heap.size := slo.out.lt
          have hbw : ∀ g, g < W2.heap.size → g ≠ D + 1 → W3.heap[g]? = W2.heap[g]? := fun g hg hne => by
            rw [hW3]; exact (World.putObj_heap_other hne).trans (Below.heap_alloc _ _ _ hg)
          have t0 : Blk W3 B 30 #[.slice none 0 0] := (hbw _ (by omega) (by omega)).trans s0.out
          have t1 : Blk W3 (B + 1) 27 #[.int .i64 0] := (hbw _ (by omega) (by omega)).trans s1.out
          have t2 : Blk W3 (B + 1 + 1) 30 #[.slice A' out.length c'] := (hbw _ (by omega) (by omega)).trans s2.out
          have t3 : Blk W3 (B + 1 + 1 + 1) 30 #[.slice A n cap] := (hbw _ (by omega) (by omega)).trans s3.out
          have t4 : Blk W3 (B + 1 + 1 + 1 + 1) 3 #[.int .i64 cur] := (hbw _ (by omega) (by omega)).trans s4.out
          have tX : Blk W3 X 32 #[.int .i64 y0, .int .i64 y1, .int .i64 y2, .slice B' m cx] := (hbw _ (by omega) (by omega)).trans sX.out
          have tY : Blk W3 W2.heap.size 3 #[.int .i64 cur] := by rw [hW3]; exact (Blk.new W2 _ _).putObj (by omega) _
          have tlo : LoopAt W3 (D + 1) (rec .busy none) := by rw [hW3]; exact (slo.out.alloc _).put _
          have tde : DefAt W3 D := (hbw _ (by omega) (by omega)).trans sde.out
          have tbe : Below B w W3 := by rw [hW3]; exact below_putObj (sbe.out.alloc (by omega) _) (by simp; omega) (by omega) _
          have tow : ownK W3 (D + 2) (.slice A' out.length c') out := own_move sow.out fun k hk => hbw k (by have := own_lt sow.out k hk; omega) (by have := own_base sow.out k hk; omega)
          have hsz3 : W2.heap.size < W3.heap.size := by rw [hW3]; simp
          have hcon := contains_any A' c' (out.map (·.1)) cur W2.heap.size W3 (by rw [List.length_map]; omega) (links_of_own tow (fa.out.below (by rw [← HBW.out]; exact tbe))) ((tY.cell 0).trans rfl)
          rw [List.length_map, ← HQB.out] at hcon
          have HCON := Lib.hid hcon
          have T0 := Lib.hid t0
          have T1 := Lib.hid t1
          have T2 := Lib.hid t2
          have T3 := Lib.hid t3
          have T4 := Lib.hid t4
          have TX := Lib.hid tX
          have TLO := Lib.hid tlo
          have TDE := Lib.hid tde
          have TBE := Lib.hid tbe
          have TOW := Lib.hid tow
          have e2 := t2.cell 0
          rw [show (#[Value.slice A' out.length c'] : Array Value)[0]? = some (.slice A' out.length c') from rfl] at e2
          obtain ⟨Y, hYe⟩ : ∃ Y, Y = W2.heap.size := ⟨_, rfl⟩
          rw [← hYe] at HCON hX2 hsz3 hl2 ⊢
          clear t0 t1 t2 t3 t4 tX tY tlo tde tbe tow hcon hbw hW3 hYe s0 s1 s2 s3 s4 sX slo sde sbe sow HW2
          gi_wp2_with fail
          refine ⟨trivial, (CallsIn.inRound (D + 1) (callsIn_wide.2 HCON.out)).mono ?_⟩
          rintro e W4 ⟨rfl, hb4⟩
          have U0 := Lib.hid (T0.out.below hb4 (by omega))
          have U1 := Lib.hid (T1.out.below hb4 (by omega))
          have U2 := Lib.hid (T2.out.below hb4 (by omega))
          have U3 := Lib.hid (T3.out.below hb4 (by omega))
          have U4 := Lib.hid (T4.out.below hb4 (by omega))
          have UX := Lib.hid (TX.out.below hb4 (by omega))
          have ULO := Lib.hid (TLO.out.below hb4 (by omega))
          have UDE := Lib.hid (TDE.out.below hb4 (by omega))
          have UBE := Lib.hid (TBE.out.trans (hb4.mono (by omega)))
          have UOW := Lib.hid (pw_own_below TOW.out hb4)
          have hsz4 := hb4.size
          clear T0 T1 T2 T3 T4 TX TLO TDE TBE TOW hb4 HCON e2
          have e0 := U0.out.cell 0
          have e1 := U1.out.cell 0
          have g0 := U0.out.frozen 0
          have g1 := U1.out.frozen 0
          rw [show (#[Value.slice none 0 0] : Array Value)[0]? = some (.slice none 0 0) from rfl] at e0
          rw [show (#[Value.int IntKind.i64 0] : Array Value)[0]? = some (.int .i64 0) from rfl] at e1
          cases q with
          | true =>
            gi_wp2_with fail
            have hlo4 := (ULO.out.far (p := ⟨B, 0, none⟩) (by simp; omega) (.slice none 0 0)).far (p := ⟨B + 1, 0, none⟩) (by simp; omega) (.int .i64 2)
            refine ⟨hlo4, hlo4.put _, ((UDE.out.far (p := ⟨B, 0, none⟩) (by simp; omega) _).far (p := ⟨B + 1, 0, none⟩) (by simp; omega) _).putObj (by omega) _, ?_, ?_, ?_⟩
            · exact below_putObj ((UBE.out.setCell (p := ⟨B, 0, none⟩) (Nat.le_refl _) _).setCell (p := ⟨B + 1, 0, none⟩) (by simp) _) hlo4.lt (by omega) _
            · exact ((U0.out.set_ 0 _).far (p := ⟨B + 1, 0, none⟩) (by simp) _).putObj (by omega) _
            · exact ((U1.out.far (p := ⟨B, 0, none⟩) (by simp) _).set_ 0 _).putObj (by omega) _
          | false =>
            gi_wp2_with fail
            refine wpIn_region_perm (by kernel_rfl) [[0, 1, 2, 3, 4, 5, 6], [1, 0, 2, 3, 4, 5, 6], [1, 2, 0, 3, 4, 5, 6], [1, 2, 3, 0, 4, 5, 6], [1, 2, 3, 4, 0, 5, 6]] (by kernel_rfl) ?_
            have e2 := U2.out.cell 0
            have g2 := U2.out.frozen 0
            rw [show (#[Value.slice A' out.length c'] : Array Value)[0]? = some (.slice A' out.length c') from rfl] at e2
            have x0 := UX.out.cell 0
            have x1 := UX.out.cell 1
            have x2 := UX.out.cell 2
            have x3 := UX.out.cell 3
            rw [show (#[Value.int IntKind.i64 y0, .int .i64 y1, .int .i64 y2, .slice B' m cx] : Array Value)[0]? = some (.int .i64 y0) from rfl] at x0
            rw [show (#[Value.int IntKind.i64 y0, .int .i64 y1, .int .i64 y2, .slice B' m cx] : Array Value)[1]? = some (.int .i64 y1) from rfl] at x1
            rw [show (#[Value.int IntKind.i64 y0, .int .i64 y1, .int .i64 y2, .slice B' m cx] : Array Value)[2]? = some (.int .i64 y2) from rfl] at x2
            rw [show (#[Value.int IntKind.i64 y0, .int .i64 y1, .int .i64 y2, .slice B' m cx] : Array Value)[3]? = some (.slice B' m cx) from rfl] at x3
            clear e0 e1 g0 g1
            obtain ⟨W5, hW5⟩ : ∃ W5, W5 = { W4 with drawn := W4.drawn + 1 } := ⟨_, rfl⟩
            rw [← hW5]
            have hb5 : Below W4.heap.size W4 W5 := by rw [hW5]; exact (Below.refl _ W4).drew
            have hsz5 := hb5.size
            have V0 := Lib.hid (U0.out.below hb5 (by omega))
            have V1 := Lib.hid (U1.out.below hb5 (by omega))
            have V2 := Lib.hid (U2.out.below hb5 (by omega))
            have V3 := Lib.hid (U3.out.below hb5 (by omega))
            have V4 := Lib.hid (U4.out.below hb5 (by omega))
            have VX := Lib.hid (UX.out.below hb5 (by omega))
            have VLO := Lib.hid (ULO.out.below hb5 (by omega))
            have VDE := Lib.hid (UDE.out.below hb5 (by omega))
            have VBE := Lib.hid (UBE.out.trans (hb5.mono (by omega)))
            have VOW := Lib.hid (pw_own_below UOW.out hb5)
            have e2 := V2.out.cell 0
            have g2 := V2.out.frozen 0
            rw [show (#[Value.slice A' out.length c'] : Array Value)[0]? = some (.slice A' out.length c') from rfl] at e2
            have x0 := VX.out.cell 0
            have x1 := VX.out.cell 1
            have x2 := VX.out.cell 2
            have x3 := VX.out.cell 3
            rw [show (#[Value.int IntKind.i64 y0, .int .i64 y1, .int .i64 y2, .slice B' m cx] : Array Value)[0]? = some (.int .i64 y0) from rfl] at x0
            rw [show (#[Value.int IntKind.i64 y0, .int .i64 y1, .int .i64 y2, .slice B' m cx] : Array Value)[1]? = some (.int .i64 y1) from rfl] at x1
            rw [show (#[Value.int IntKind.i64 y0, .int .i64 y1, .int .i64 y2, .slice B' m cx] : Array Value)[2]? = some (.int .i64 y2) from rfl] at x2
            rw [show (#[Value.int IntKind.i64 y0, .int .i64 y1, .int .i64 y2, .slice B' m cx] : Array Value)[3]? = some (.slice B' m cx) from rfl] at x3
            have e2a := (V2.out.alloc (.cells #[.int .i64 y0, .int .i64 y1, .int .i64 y2, .slice B' m cx] 32)).cell 0
            rw [show (#[Value.slice A' out.length c'] : Array Value)[0]? = some (.slice A' out.length c') from rfl] at e2a
            clear hb5 hW5 U0 U1 U2 U3 U4 UX ULO UDE UBE UOW
            obtain ⟨i0, hi0, hz0, hz1, hz2⟩ := info_parts infoL
            intro ord hord
            simp only [List.mem_cons, List.not_mem_nil, or_false] at hord
            rcases hord with rfl | rfl | rfl | rfl | rfl
            all_goals
              simp only [List.filterMap_cons, List.filterMap_nil, List.getElem?_toArray, List.getElem?_cons_zero, List.getElem?_cons_succ]
              show wpListIn _ _ _ _ _ [_, _, _, _, _, _, _] _ _
              gi_wp2_with (gi_at_builtin; refine wpListIn_append_own _ rfl _ _ 30 rfl (D + 2) 32 i0 _ 4 48 Try.underlying30 hi0 hz0 hz1 hz2 rfl (by decide) (.slice A' out.length c') out.length (flatE encK out) rfl (VOW.out.alloc _) ⟨W5.heap.size, 0, none⟩ 1 1 [.int .i64 y0, .int .i64 y1, .int .i64 y2, .slice B' m cx] rfl rfl (World.news_of_block (cs := #[.int .i64 y0, .int .i64 y1, .int .i64 y2, .slice B' m cx]) (t := 32) (fr := (0, 0)) (heap_alloc_new W5 _)) (by simp [Value.oneCell']) (by unfold maxLen; omega) (by omega) (by simp; omega) ?_)
              intro v6 w6 hown6 hgrow6 _
              obtain ⟨g6, cap6, rfl⟩ := ownsRow_succ hown6
              have hfar : ∀ g, g < D + 2 → some g ≠ (Value.slice A' out.length c').ownBlock := fun g hg e => by have := own_base VOW.out g e.symm; omega
              have hfarX : some X ≠ (Value.slice A' out.length c').ownBlock := fun e => by have := hvl.out X e.symm; omega
              have Z0 := Lib.hid ((V0.out.alloc _).grown hgrow6 (hfar _ (by omega)))
              have Z1 := Lib.hid ((V1.out.alloc _).grown hgrow6 (hfar _ (by omega)))
              have Z2 := Lib.hid ((V2.out.alloc _).grown hgrow6 (hfar _ (by omega)))
              have Z3 := Lib.hid ((V3.out.alloc _).grown hgrow6 (hfar _ (by omega)))
              have Z4 := Lib.hid ((V4.out.alloc _).grown hgrow6 (hfar _ (by omega)))
              have ZX := Lib.hid ((VX.out.alloc _).grown hgrow6 hfarX)
              have ZLO := Lib.hid ((VLO.out.alloc _).grown hgrow6 (hfar _ (by omega)))
              have ZDE := Lib.hid ((VDE.out.alloc _).grown hgrow6 (hfar _ (by omega)))
              have ZBE := Lib.hid ((VBE.out.alloc (by omega) _).grown hgrow6 (by simp; omega) (fun k e => by have := own_base VOW.out k e; omega))
              have ZOW := Lib.hid hown6
              have hsz6 : W5.heap.size + 1 ≤ w6.heap.size := by have := hgrow6.size; simpa using this
              clear V0 V1 V2 V3 V4 VX VLO VDE VBE VOW hown6 hgrow6 e2 g2 e2a x0 x1 x2 x3
              have e2 := Z2.out.cell 0
              have g2 := Z2.out.frozen 0
              rw [show (#[Value.slice A' out.length c'] : Array Value)[0]? = some (.slice A' out.length c') from rfl] at e2
              gi_wp2_with fail
              have hlo7 := ZLO.out.far (p := ⟨B + 1 + 1, 0, none⟩) (by simp; omega) (.slice (some ⟨g6, 0, none⟩) (out.length + 1) cap6)
              refine ⟨hlo7, some ⟨g6, 0, none⟩, cap6, hlo7.put _, ?_, ?_, ?_, ?_, ?_, ?_, ?_, ?_, ?_, ?_, ?_⟩
              · exact (ZDE.out.far (p := ⟨B + 1 + 1, 0, none⟩) (by dsimp only; omega) _).putObj (by omega) _
              · exact below_putObj (ZBE.out.setCell (p := ⟨B + 1 + 1, 0, none⟩) (by simp; omega) _) hlo7.lt (by omega) _
              · exact (Z0.out.far (p := ⟨B + 1 + 1, 0, none⟩) (by dsimp only; omega) _).putObj (by omega) _
              · exact (Z1.out.far (p := ⟨B + 1 + 1, 0, none⟩) (by dsimp only; omega) _).putObj (by omega) _
              · exact (Z2.out.set_ 0 _).putObj (by omega) _
              · exact (Z3.out.far (p := ⟨B + 1 + 1, 0, none⟩) (by dsimp only; omega) _).putObj (by omega) _
              · exact (Z4.out.far (p := ⟨B + 1 + 1, 0, none⟩) (by dsimp only; omega) _).putObj (by omega) _
              · have hel : encK (x, B', cx) = [.int .i64 y0, .int .i64 y1, .int .i64 y2, .slice B' m cx] := by unfold encK; rw [HY0.out, HY1.out, HY2.out, HM.out]
                rw [flatE_append, flatE_cons, flatE_nil, List.append_nil, hel]
                refine own_move ZOW.out fun k hk => ?_
                have hkb := own_base ZOW.out k hk
                exact (World.putObj_heap_other (by omega)).trans (Below.heap_setCell _ _ _ _ (by simp; omega))
              · intro y hy
                rcases List.mem_append.1 hy with hy | hy
                · exact fa.out y hy
                · rw [List.mem_singleton.1 hy]; exact sfx.out
              · rw [HEX.out]
                exact (ZX.out.far (p := ⟨B + 1 + 1, 0, none⟩) (by simp; omega) _).putObj (by omega) _
              · simp; omega
        obtain ⟨fn2, tmps2, assign2, body2, hy2, hR2⟩ := hY
        have HR2 := Lib.hid hR2
        clear hR2 hq hencx
        have hstep : pathL l (n + 1 - out.length) cur (out.map (·.1)) = if q = true then ([], 2) else if y1 = 0 then ((out ++ [(x, B', cx)]).map (·.1), 0) else pathL l (n + 1 - (out.length + 1)) y1 ((out ++ [(x, B', cx)]).map (·.1)) := by
          rw [show n + 1 - out.length = (n - out.length) + 1 by omega, pathL, HF.out]
          simp only
          rw [HX.out, ← HQB.out, HY1.out, show n + 1 - (out.length + 1) = n - out.length by omega, List.map_append]
          rfl
        have HSTEP := Lib.hid (pl.out.trans hstep)
        clear hstep pl
        rw [HW2.out, HXE.out] at hy2
        gi_wp2_with fail
        rw [← HW2.out, ← HXE.out]
        refine HR2.out.mono ?_
        clear hy2 e4 d3 d4
        rintro e W (⟨rfl, rfl, A2, c2, hon⟩ | ⟨rfl, rfl, hlo, hde, hbe, hB0, hB1⟩)
        · obtain ⟨hlo, hde, hbe, hB0, hB1, hB2, hB3, hB4, how, hfa2, hbX, hXl⟩ := hon
          rw [HEX.out] at hbX
          have x1 := hbX.cell 1
          rw [show (#[Value.int IntKind.i64 y0, .int .i64 y1, .int .i64 y2, .slice B' m cx] : Array Value)[1]? = some (.int .i64 y1) from rfl] at x1
          have e4 := hB4.cell 0
          have g4 := hB4.frozen 0
          rw [show (#[Value.int IntKind.i64 cur] : Array Value)[0]? = some (.int .i64 cur) from rfl] at e4
          have HLO := Lib.hid hlo
          have HDE := Lib.hid hde
          have HBE := Lib.hid hbe
          have H0 := Lib.hid hB0
          have H1 := Lib.hid hB1
          have H2 := Lib.hid hB2
          have H3 := Lib.hid hB3
          have H4 := Lib.hid hB4
          have HOW := Lib.hid how
          have HFA := Lib.hid hfa2
          have hDW := hlo.lt
          clear hlo hde hbe hB0 hB1 hB2 hB3 hB4 how hfa2 hbX
          have hlen2 : (out ++ [(x, B', cx)]).length = out.length + 1 := by simp
          have HL2 := Lib.hid hlen2
          clear hlen2
          by_cases hz : y1 = 0
          · have hzb : (y1 == 0) = true := by rw [hz]; rfl
            have HZ := Lib.hid hz
            clear hz
            gi_wp2_with fail
            refine bodyPost_ret (results_none rfl _ _ _) rfl ?_
            refine ⟨.ready, none, ⟨_, rfl⟩, by simp, HLO.out, HDE.out, HBE.out, .inl ⟨rfl, A2, c2, out ++ [(x, B', cx)], by rw [HL2.out]; exact H2.out, H0.out, H1.out, ?_, HFA.out, ?_⟩⟩
            · show World.ownsRow _ _ _ _ _ _ _
              rw [HL2.out]; exact HOW.out
            · rw [HSTEP.out, if_neg (by decide), if_pos HZ.out]
          · have hzb : (y1 == 0) = false := by rw [beq_eq_false_iff_ne]; exact hz
            have HZ := Lib.hid hz
            clear hz
            gi_wp2_with fail
            go_roundw
            case rel =>
              refine ⟨y1, A2, c2, out ++ [(x, B', cx)], Lib.hid (H0.out.far (p := ⟨B + 1 + 1 + 1 + 1, 0, none⟩) (by dsimp only; omega) _), Lib.hid (H1.out.far (p := ⟨B + 1 + 1 + 1 + 1, 0, none⟩) (by dsimp only; omega) _), ?_, Lib.hid (H3.out.far (p := ⟨B + 1 + 1 + 1 + 1, 0, none⟩) (by dsimp only; omega) _), Lib.hid (H4.out.set_ 0 _), ?_, HFA, Lib.hid (HLO.out.far (p := ⟨B + 1 + 1 + 1 + 1, 0, none⟩) (by dsimp only; omega) _), Lib.hid (HDE.out.far (p := ⟨B + 1 + 1 + 1 + 1, 0, none⟩) (by dsimp only; omega) _), Lib.hid (HBE.out.setCell (p := ⟨B + 1 + 1 + 1 + 1, 0, none⟩) (by dsimp only; omega) _), by simp; omega, ?_, ?_⟩
              · rw [HL2.out]; exact Lib.hid (H2.out.far (p := ⟨B + 1 + 1 + 1 + 1, 0, none⟩) (by dsimp only; omega) _)
              · show Hid (World.ownsRow _ _ _ _ _ _ _)
                rw [HL2.out]
                exact Lib.hid (own_setCell HOW.out (p := ⟨B + 1 + 1 + 1 + 1, 0, none⟩) (fun e => by have := own_base HOW.out _ e.symm; dsimp only at this; omega) _)
              · refine Lib.hid ?_
                rw [HSTEP.out, if_neg (by decide), if_neg HZ.out, HL2.out]
              · refine Lib.hid ⟨?_, ?_⟩
                · rw [List.map_append]
                  refine List.nodup_append.2 ⟨nd.out.1, by simp, ?_⟩
                  intro u hu v hv
                  rw [List.map_singleton, List.mem_singleton] at hv
                  subst hv
                  rintro rfl
                  obtain ⟨y, hy, hyx⟩ := List.mem_map.1 hu
                  have hq0 : hasL (out.map (·.1)) cur = false := HQB.out.symm
                  unfold hasL at hq0
                  rw [List.any_eq_false] at hq0
                  have := hq0 y.1 (List.mem_map.2 ⟨y, hy, rfl⟩)
                  rw [hyx, HXC.out] at this
                  simp at this
                · intro y hy
                  rcases List.mem_append.1 hy with hy | hy
                  · exact nd.out.2 y hy
                  · rw [List.mem_singleton.1 hy]; exact HXL.out
            case measure =>
              have h2 := lenAt_of (H2.out.far (p := ⟨B + 1 + 1 + 1 + 1, 0, none⟩) (by dsimp only; omega) (.int .i64 y1))
              have h1 := lenAt_of r2.out
              rw [h1, h2]
              omega
        · gi_wp2_with fail
          refine bodyPost_ret (results_none rfl _ _ _) rfl ?_
          refine ⟨.done, some .ret, ⟨_, rfl⟩, by simp, hlo, hde, hbe, .inr ⟨rfl, 2, hB0, hB1, ?_⟩⟩
          rw [HSTEP.out, if_pos trivial]
end Go.Proofs.Ytbeloaccgmgocaa.Pr
