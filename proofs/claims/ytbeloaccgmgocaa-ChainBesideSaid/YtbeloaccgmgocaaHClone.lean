/- slices.Clone of cells: a row of the call's own. Condition: no more cells than fit. -/
import Derived.Test.YtbeloaccgmgocaaHFlat0
import Derived.Test.YtbeloaccgmgocaaHBase
import Derived.Lib.Hide
import Derived.Lib.LazyBuf
namespace Go.Proofs.Ytbeloaccgmgocaa.Pr
open Go.RowKit Go.Proofs.YtbeloaccgmgocaaW.PrintWords Go.Proofs.YtbeloaccgmgocaaW.PrintLast Go.Proofs.Ytbeloaccgmgocaa
set_option linter.unusedVariables false
def encC (x : SC) : List Value := [.int .i64 x.f0, .string x.f1]
theorem encC_len (x : SC) : (encC x).length = 2 := rfl
theorem encC_one (x : SC) : ∀ u ∈ encC x, u.oneCell' = true := by intro u hu; simp [encC] at hu; rcases hu with rfl | rfl <;> rfl
theorem encC_mk (w : World) (base : Nat) (ok : Nat → Prop) (x : SC) : kC.M w base ok x (encC x) := k67_mkM w base ok x
theorem encC_open (w : World) (base : Nat) (ok : Nat → Prop) (x : SC) (cs : List Value) (h : kC.M w base ok x cs) : cs = encC x := k67_openM h
theorem encC_openK (w : World) (x : SC) (cs : List Value) (h : kC.K w x cs) : cs = encC x := k67_open h
theorem kC_sz : kC.sz = 2 := rfl
theorem infoC : (Try.prog.info? 67).map (fun i => (i.zero, i.size, i.bytes)) = some (some (.agg #[.int .i64 0, .string ⟨#[]⟩]), 2, 24) := by kernel_rfl
abbrev ownC (w : World) (base : Nat) (v : Value) (l : List SC) : Prop := w.ownsRow base 67 2 v l.length (flatE encC l)
theorem ownC_R {w : World} {base : Nat} {v : Value} {l : List SC} (h : ownC w base v l) : Kd.R kC 67 w base (fun _ => True) v l := R_of_own (d := kC) encC_len encC_mk h (fun _ _ => trivial)
theorem R_ownC {w : World} {base : Nat} {ok : Nat → Prop} {v : Value} {l : List SC} (h : Kd.R kC 67 w base ok v l) : ownC w base v l := own_of_R (d := kC) encC_len encC_open h
set_option maxRecDepth 100000 in
set_option maxHeartbeats 1600000 in
theorem clone_any (A : Option Addr) (cap : Nat) (l : List SC) (w : World) (hr : Kd.C kC w A l.length l) (hl : l.length ≤ 1000000) :
    Calls Try.prog 35 #[.slice A l.length cap] w fun e w' => (∃ v, e = .returned v ∧ ownC w' w.heap.size v l) ∧ Below w.heap.size w w' := by
  obtain ⟨n, hn⟩ : ∃ n, l.length = n := ⟨_, rfl⟩
  rw [hn] at hl ⊢
  have HR := Lib.hid hr
  have HN := Lib.hid hn
  clear hr hn
  have q : ∀ (w : World) (a : Option Addr) (n c : Nat), (binOp .eql 24 (.slice a n c) (.slice none 0 0)).run Try.prog w = .ok (.bool a.isNone) w := fun w a n c => run_eql_slice_nil w 24 67 a n c Try.underlying24
  cases A with
  | none =>
    go_enter Try.func35, Try.ntmps35
    go_wp2
    go_ret
    have hl0 : l = [] := by
      rcases l with _ | ⟨x, l⟩
      · rfl
      · obtain ⟨b, off, hA, _⟩ := cellsAt_of_C HR.out (by simp)
        cases hA
    subst hl0
    exact ⟨⟨_, rfl, own_nil _ _ _ _⟩, Below.refl _ _⟩
  | some a =>
    have HR2 : Hid (Kd.C kC w (some a) n l) := Lib.hid (by have := HR.out; rw [HN.out] at this; exact this)
    go_enter Try.func35, Try.ntmps35
    have h0 : ownC (w.alloc (.cells #[] 67)) w.heap.size (.slice (some ⟨w.heap.size, 0, none⟩) 0 0) [] := World.ownsRow_lit (base := w.heap.size) (e := 67) (size := 2) w #[] 0 (Nat.le_refl _) (by simp) (by simp)
    have HB : Below w.heap.size w (w.alloc (.cells #[] 67)) := (Below.refl _ _).alloc (Nat.le_refl _) _
    have H0 := Lib.hid h0
    have HBB := Lib.hid HB
    clear h0 HB
    go_wp2_with (at_builtin; refine Kd.R_append_rows kC (w0 := w) w.heap.size rfl _ _ 24 67 _ 24 rfl Try.underlying24 infoC rfl (by decide) (by decide) (.slice (some ⟨w.heap.size, 0, none⟩) 0 0) [] l (some a) n cap (fun _ => True) (fun _ => False) rfl rfl (ownC_R H0.out) (Kd.C_below HR2.out ((Below.refl _ _).alloc (Nat.le_refl _) _)) (fun x cs hx => by rw [encC_openK _ _ _ hx]; exact encC_mk _ _ _ x) (fun _ h => h.elim) (fun _ _ => trivial) HBB.out HBB.out.size (by simp; omega) ?_)
    intro v1 w1 hR hB hg hat
    have H1 := Lib.hid (R_ownC hR)
    have H2 := Lib.hid hB
    clear hR hB hg hat
    go_wp2
    go_ret
    exact ⟨⟨_, rfl, H1.out⟩, H2.out⟩
end Go.Proofs.Ytbeloaccgmgocaa.Pr
