/- Two laws for a range over a function, where what a round is handed is known of in the world that it is handed in: the statement, and one round. No conditions. -/
import Derived.RangeFuncBox
import Derived.RangeFuncCalls
import Derived.RangeFuncLeaves
import Derived.Test.YtbeloaccgmgocaaWords
namespace Go.Proofs.Ytbeloaccgmgocaa
open Go Go.RowKit
set_option linter.unusedVariables false
variable {F : Fence} {n : Nat} {P : Program}
/-- where a loop's record lies; where the rounds' deferred calls do -/
def LoopAt (W : World) (l : Nat) (r : Loop) : Prop := W.heap[l]? = some (.loop r)
def DefAt (W : World) (l : Nat) : Prop := W.heap[l]? = some (.deferred (some []))
/-- a loop's record -/
def recOf (a : Act) (ps : Array Tmp) (assign body : Code) (D : Nat) (fn : FuncId) (st : LoopState) (jump : Option Code) : Loop :=
  { state := st, pending := jump, fn := fn, tmps := a.tmps, params := ps, assign := assign, body := body, defers := D }
/-- the statement: the iterator is walked with the record in sight -/
theorem range_stmt {g : Operand} {ps : Array Tmp} {assign body : Code} {Q : Exit → Act → World → Prop} {a : Act} {w : World}
    (hro : F.round = none) (h1 : 1 ≤ n) {gf : Nat} {lb : Array Value} (hg : a.eval g = .func (.func gf) #[] lb) (hFg : F.fn gf) (eg : ∀ args w, (callFunc gf args).run P w = .ok (.enter gf args) w)
    (h : ∀ fn, F.fn fn → ∀ rec : LoopState → Option Code → Loop, rec = recOf a ps assign body w.heap.size fn → CallsIn F (n - 1) P gf (#[.func (.yield (w.heap.size + 1)) #[] #[]] ++ lb)
      ((w.alloc (.deferred (some []))).alloc (.loop (rec .ready none))) fun e W =>
        ∃ v st jump, e = .returned v ∧ st ≠ .busy ∧ LoopAt W (w.heap.size + 1) (rec st jump) ∧
          (match jump with
           | none => Q .normal { a with defers := { target := .collected w.heap.size, args := #[] } :: a.defers } (W.putObj (w.heap.size + 1) (.loop (rec .exhausted none)))
           | some c => c.wpIn F n P Q { a with defers := { target := .collected w.heap.size, args := #[] } :: a.defers } (W.putObj (w.heap.size + 1) (.loop (rec .exhausted (some c)))))) :
    (Code.rangeFunc g ps assign body).wpIn F n P Q a w := by
  refine wpIn_rangeFunc fun fn hfn => ?_
  rw [hro]
  obtain ⟨rec, hrec⟩ : ∃ rec, rec = recOf a ps assign body w.heap.size fn := ⟨_, rfl⟩
  obtain ⟨W1, hW1⟩ : ∃ W1, (w.alloc (.deferred (some []))).alloc (.loop (rec .ready none)) = W1 := ⟨_, rfl⟩
  have hc := h fn hfn rec hrec
  rw [hW1] at hc
  refine ⟨_, _, W1, { target := .fn (.func gf) lb, args := #[.func (.yield (w.heap.size + 1)) #[] #[]] }, W1, gf, _, W1, (run_enterLoop_outer fn a.tmps ps assign body).trans (by rw [← hW1, hrec]; rfl), ?_, ?_, ?_, fun _ => h1, hc.mono ?_⟩
  · simp only [resolve, hg]
    simp [go_sem]
  · intro f' hf'
    simp [Target.leads] at hf'
    subst hf'
    exact hFg
  · simp [invoke, go_sem, eg]
  · rintro e W ⟨v, st, jump, rfl, hst, hl, hj⟩
    subst hrec
    have hend := run_endLoop (P := P) hl hst
    refine ⟨jump, _, hend, ?_⟩
    cases jump with
    | none => exact hj
    | some c => exact hj
/-- one round -/
theorem yield_round {l : Nat} {r : Loop} {W : World} {args : Array Value} {R : Ending → World → Prop} (hl : W.heap[l]? = some (.loop r)) (hF : F.fn r.fn) (hsz : args.size = r.params.size)
    (h : r.assign.wpIn (F.inRound l) n P (Exit.then (fun a₁ W₁ => W₁.heap[l]? = some (.loop r) ∧ r.state = .ready ∧
      r.body.wpIn (F.inRound l) n P (fun e _ W₂ => W₂.heap[l]? = some (.loop { r with state := .busy }) ∧
        (match e with
         | .normal => R (.returned (.bool true)) (W₂.putObj l (.loop { r with state := .ready, pending := none }))
         | .ret => R (.returned (.bool false)) (W₂.putObj l (.loop { r with state := .done, pending := some .ret }))
         | _ => False)) a₁ (W₁.putObj l (.loop { r with state := .busy }))) (fun _ _ _ => False))
      { tmps := (r.params.zip args).foldl (fun t (p, v) => t.setIfInBounds p v) r.tmps, defers := [] } W) :
    YieldAt F n P l args W R := by
  refine ⟨_, _, _, _, run_yield hl hsz, roundIn_of_wpIn hF (wpIn_mono h ?_)⟩
  rintro e a₁ W₁ he
  cases e with
  | normal =>
    obtain ⟨hl₁, hst, hb⟩ := he
    refine ⟨_, run_beginRound hl₁ hst, wpIn_mono hb ?_⟩
    rintro e₂ a₂ W₂ ⟨hl₂, hR⟩
    cases e₂ with
    | normal => exact ⟨_, _, run_endRound none hl₂, hR⟩
    | ret => exact ⟨_, _, run_endRound (some .ret) hl₂, hR⟩
    | exit id => exact hR.elim
    | goto t => exact hR.elim
    | panic ch => exact hR.elim
    | outgrown => exact hR.elim
  | exit id => exact he.elim
  | goto t => exact he.elim
  | ret => exact he.elim
  | panic ch => exact he.elim
  | outgrown => exact he.elim
/-- one round of a loop whose record is known -/
theorem yield_rec {a : Act} {ps : Array Tmp} {assign body : Code} {D : Nat} {fn : FuncId} {rec : LoopState → Option Code → Loop} (hrec : rec = recOf a ps assign body D fn) {l : Nat} {W : World} {args : Array Value} {R : Ending → World → Prop} (hl : LoopAt W l (rec .ready none)) (hF : F.fn fn) (hsz : args.size = ps.size)
    (h : assign.wpIn (F.inRound l) n P (Exit.then (fun a₁ W₁ => LoopAt W₁ l (rec .ready none) ∧
      body.wpIn (F.inRound l) n P (fun e _ W₂ => LoopAt W₂ l (rec .busy none) ∧
        (match e with
         | .normal => R (.returned (.bool true)) (W₂.putObj l (.loop (rec .ready none)))
         | .ret => R (.returned (.bool false)) (W₂.putObj l (.loop (rec .done (some .ret))))
         | _ => False)) a₁ (W₁.putObj l (.loop (rec .busy none)))) (fun _ _ _ => False))
      { tmps := (ps.zip args).foldl (fun t (p, v) => t.setIfInBounds p v) a.tmps, defers := [] } W) :
    YieldAt F n P l args W R := by
  subst hrec
  refine yield_round (r := recOf a ps assign body D fn .ready none) hl hF hsz (wpIn_mono h ?_)
  rintro e a₁ W₁ he
  cases e with
  | normal =>
    obtain ⟨h1, h2⟩ := he
    refine ⟨h1, rfl, wpIn_mono h2 ?_⟩
    rintro e₂ a₂ W₂ ⟨h3, h4⟩
    refine ⟨h3, ?_⟩
    cases e₂ with
    | normal => exact h4
    | ret => exact h4
    | exit id => exact h4
    | goto t => exact h4
    | panic ch => exact h4
    | outgrown => exact h4
  | exit id => exact he
  | goto t => exact he
  | ret => exact he
  | panic ch => exact he
  | outgrown => exact he
theorem Blk.putObj {w : World} {g : Nat} {t : TypeId} {cs : Array Value} (h : Blk w g t cs) {l : Nat} (hne : g ≠ l) (o : Obj) : Blk (w.putObj l o) g t cs := (World.putObj_heap_other hne).trans h
section
variable {w w' : World} {l : Nat} {r : Loop}
theorem LoopAt.lt (h : LoopAt w l r) : l < w.heap.size := (Array.getElem?_eq_some_iff.1 h).1
theorem LoopAt.below {B : Nat} (h : LoopAt w l r) (hb : Below B w w') (hg : l < B) : LoopAt w' l r := (hb.block l hg).trans h
theorem LoopAt.alloc (h : LoopAt w l r) (o : Obj) : LoopAt (w.alloc o) l r := (Below.heap_alloc w o l h.lt).trans h
theorem LoopAt.far (h : LoopAt w l r) {p : Addr} (hp : l ≠ p.block) (u : Value) : LoopAt (w.setCell p u) l r := (Below.heap_setCell w p u l hp).trans h
theorem LoopAt.put (h : LoopAt w l r) (r' : Loop) : LoopAt (w.putObj l (.loop r')) l r' := World.putObj_heap_same h.lt
theorem DefAt.lt (h : DefAt w l) : l < w.heap.size := (Array.getElem?_eq_some_iff.1 h).1
theorem DefAt.below {B : Nat} (h : DefAt w l) (hb : Below B w w') (hg : l < B) : DefAt w' l := (hb.block l hg).trans h
theorem DefAt.alloc (h : DefAt w l) (o : Obj) : DefAt (w.alloc o) l := (Below.heap_alloc w o l h.lt).trans h
theorem DefAt.far (h : DefAt w l) {p : Addr} (hp : l ≠ p.block) (u : Value) : DefAt (w.setCell p u) l := (Below.heap_setCell w p u l hp).trans h
theorem DefAt.putObj (h : DefAt w l) {k : Nat} (hne : l ≠ k) (o : Obj) : DefAt (w.putObj k o) l := (World.putObj_heap_other hne).trans h
theorem LoopAt.grown {row : Option Nat} (h : LoopAt w l r) (hb : w.grownBy w' row) (hg : some l ≠ row) : LoopAt w' l r := (hb.block l h.lt hg).trans h
theorem DefAt.grown {row : Option Nat} (h : DefAt w l) (hb : w.grownBy w' row) (hg : some l ≠ row) : DefAt w' l := (hb.block l h.lt hg).trans h
end
theorem below_putObj {B : Nat} {a w : World} (h : Below B a w) {l : Nat} (hl : l < w.heap.size) (hB : B ≤ l) (o : Obj) : Below B a (w.putObj l o) :=
  h.grown (grownBy_putObj' w l o) (by omega) (fun k e => by cases e; exact hB)
end Go.Proofs.Ytbeloaccgmgocaa
