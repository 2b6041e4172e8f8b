/- Words on trees of layer 14: a node, a row of nodes in memory. No conditions. -/
import Derived.Test.YtfdhehjfbcddgaaDoorHFlat0
import Derived.Test.YtfdhehjfbcddgaaDoorWords
import Derived.Test.YtfdhehjfbcddgaaDoorChecked
import Derived.Lib.BufferWrite
import Derived.Laws.ResultCell
import Derived.BigFrame
import Derived.BigGuardPart
namespace Go.Proofs.YtfdhehjfbcddgaaDoor.Pr
open Go.RowKit Go.Proofs.YtfdhehjfbcddgaaDoorW.PrintWords Go.Proofs.YtfdhehjfbcddgaaDoorW.PrintLast Go.Proofs.YtfdhehjfbcddgaaDoor
set_option linter.unusedVariables false
theorem results_row_tmp {P : Program} {fn : Func} {p u : Tmp} {ty : TypeId} (h : fn.results = #[.cell p ty, .tmp u]) (tmps : Array Value) (w : World) (g : Nat) (t : TypeId) (cs : Array Value) (fr : Nat × Nat) (d : TypeDesc)
    (hp : tmps.getD p undef = .pointer (some ⟨g, 0, none⟩)) (hg : w.heap[g]? = some (.cells cs t fr))
    (hu : P.underlying ty = some d) (hd : (match d with | .struct _ | .array _ _ => true | _ => false) = true) (hi : (P.info? ty).map (·.size) = some cs.size) :
    (results fn tmps).run P w = .ok (.tuple #[.agg cs, tmps.getD u undef]) w := by
  have hp' : tmps[p]?.getD undef = .pointer (some ⟨g, 0, none⟩) := by simpa using hp
  rw [results_cell_tmp h]
  simp [hp', asAddr, run_loadVar_row w g t ty cs fr d hg hu hd hi]
def byA (s : ByteArray) (i : Int) : Int := Go.Proofs.YtfdhehjfbcddgaaDoorW.PrintWords.bt s i
theorem byA_at (s : ByteArray) (i : Int) : ∀ h : i.toNat < s.size, ((s[i.toNat]'h).toNat : Int) = byA s i := bt_at s i
/-- a node of a tree -/
structure Nd where
  id : Int
  par : Int
  name : ByteArray
  time : Int
  ghost : Bool
  pin : Bool
def zN : Nd := ⟨0, 0, ⟨#[]⟩, 0, false, false⟩
def encN (x : Nd) : List Value := [.int .i64 x.id, .int .i64 x.par, .string x.name, .int .u64 x.time, .bool x.ghost, .bool x.pin]
theorem encN_len (x : Nd) : (encN x).length = 6 := rfl
def valN (x : Nd) : Value := .agg #[.int .i64 x.id, .int .i64 x.par, .string x.name, .int .u64 x.time, .bool x.ghost, .bool x.pin]
/-- a row of nodes that is read -/
def NodesAt (w : World) (A : Option Addr) (l : List Nd) : Prop :=
  0 < l.length → ∃ b off, A = some ⟨b, off, none⟩ ∧ (∃ cs fr, w.heap[b]? = some (.cells cs 42 fr)) ∧ ∀ j u, (flatE encN l)[j]? = some u → w.cell? ⟨b, off + j, none⟩ = some u
theorem nodes_get {w : World} {b off : Nat} {l : List Nd} (h : ∀ j u, (flatE encN l)[j]? = some u → w.cell? ⟨b, off + j, none⟩ = some u) (i : Nat) (hi : i < l.length) :
    w.cell? ⟨b, off + i * 6, none⟩ = some (.int .i64 l[i].id) ∧ w.cell? ⟨b, off + i * 6 + 1, none⟩ = some (.int .i64 l[i].par) ∧ w.cell? ⟨b, off + i * 6 + 2, none⟩ = some (.string l[i].name) ∧ w.cell? ⟨b, off + i * 6 + 3, none⟩ = some (.int .u64 l[i].time) ∧ w.cell? ⟨b, off + i * 6 + 4, none⟩ = some (.bool l[i].ghost) ∧ w.cell? ⟨b, off + i * 6 + 5, none⟩ = some (.bool l[i].pin) := by
  have g := fun (j : Nat) (hj : j < 6) => flatE_get encN_len l i hi j hj
  refine ⟨h (i * 6) _ ((g 0 (by decide)).trans rfl), ?_, ?_, ?_, ?_, ?_⟩
  · rw [Nat.add_assoc]; exact h _ _ ((g 1 (by decide)).trans rfl)
  · rw [Nat.add_assoc]; exact h _ _ ((g 2 (by decide)).trans rfl)
  · rw [Nat.add_assoc]; exact h _ _ ((g 3 (by decide)).trans rfl)
  · rw [Nat.add_assoc]; exact h _ _ ((g 4 (by decide)).trans rfl)
  · rw [Nat.add_assoc]; exact h _ _ ((g 5 (by decide)).trans rfl)
theorem obj_lt {w : World} {b : Nat} {o : Obj} (h : w.heap[b]? = some o) : b < w.heap.size := (Array.getElem?_eq_some_iff.1 h).1
/-- kept where the blocks of nodes stay -/
theorem NodesAt.kept {w w' : World} {A : Option Addr} {l : List Nd} (h : NodesAt w A l) (hk : ∀ (b : Nat) cs fr, w.heap[b]? = some (.cells cs 42 fr) → w'.heap[b]? = w.heap[b]?) : NodesAt w' A l := by
  intro hp
  obtain ⟨b, off, ha, ⟨cs, fr, ho⟩, hc⟩ := h hp
  have e := hk b cs fr ho
  refine ⟨b, off, ha, ⟨cs, fr, e.trans ho⟩, fun j u hu => ?_⟩
  rw [← hc j u hu]
  simp only [World.cell?, e]
theorem NodesAt.below {w w' : World} {A : Option Addr} {l : List Nd} (h : NodesAt w A l) (hb : Below w.heap.size w w') : NodesAt w' A l := h.kept (fun b cs fr ho => hb.block b (obj_lt ho))
theorem NodesAt.nil (w : World) (A : Option Addr) : NodesAt w A [] := fun h => absurd h (Nat.lt_irrefl 0)
theorem nodes_of_own {w : World} {base : Nat} {A : Option Addr} {n cap : Nat} {l : List Nd} (h : w.ownsRow base 42 6 (.slice A n cap) l.length (flatE encN l)) : NodesAt w A l := by
  intro hp
  rcases h.2 with ⟨_, h0⟩ | ⟨g, c, cur, he, hb, hh, _⟩
  · omega
  · injection he with he1 he2 he3
    subst he1
    subst he2
    refine ⟨g, 0, rfl, ⟨cur, (0, 0), hh⟩, fun j u hu => ?_⟩
    have hj : j < (flatE encN l).length := (List.getElem?_eq_some_iff.1 hu).1
    rw [flatE_length encN_len] at hj
    rw [Nat.zero_add, h.cellAt j hj, hu]
def findN (l : List Nd) (a : Int) : Nd × Bool := match l.findIdx? (fun x => x.id == a) with
  | none => (zN, false)
  | some i => (l.getD i zN, true)
end Go.Proofs.YtfdhehjfbcddgaaDoor.Pr
