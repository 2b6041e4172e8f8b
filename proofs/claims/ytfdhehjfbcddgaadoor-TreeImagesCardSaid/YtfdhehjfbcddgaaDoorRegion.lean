/- A region that draws its order, whose operations only read and whose callees lay blocks of their own alone: one walk in the order of the text serves every order. Conditions: none. -/
import Derived.Test.YtfdhehjfbcddgaaDoorWords
import Derived.Deep.QuietTactic
import Derived.BigQuiet
namespace Go.Proofs.YtfdhehjfbcddgaaDoor
open Go.RowKit
/-- a world behind w: what lay in w lies unturned -/
structure Behind (w : World) where
  v : World
  h : Below w.heap.size w v
instance (w : World) : Nonempty (Behind w) := ⟨⟨w, Below.refl _ _⟩⟩
theorem Behind.cell {w : World} (p : Behind w) {b o : Nat} {x : Value} (h : w.cell? ⟨b, o, none⟩ = some x) : p.v.cell? ⟨b, o, none⟩ = some x := by
  have hb : b < w.heap.size := block_lt_of_cell h
  rw [p.h.cell (p := ⟨b, o, none⟩) hb, h]
theorem wpQuiet_weak {P : Program} {ops : Array Oper} {C : World → Prop} {Q Q' : Act → Prop} (h : ∀ a, Q a → Q' a) : ∀ (l : List Oper) (a : Act), wpQuiet P ops C Q l a → wpQuiet P ops C Q' l a
  | [], a, hq => h a hq
  | o :: rest, a, hq => by
    unfold wpQuiet at hq ⊢
    split
    · rename_i hw; rw [if_pos hw] at hq; exact Oper.quiet_mono (fun a' => wpQuiet_weak h rest a') hq
    · rename_i hw; rw [if_neg hw] at hq; exact wpQuiet_weak h rest _ hq
theorem wp_region_behind {P : Program} {id : Nat} {Q : Exit → Act → World → Prop} {a : Act} {w : World} {l : List Oper} (hm : P.follows .mixedOrders = true) (hB : Region.lexB .any l.toArray = true)
    (h : wpQuiet P l.toArray (fun w' => ∃ p : Behind w, w' = p.v) (fun a' => ∀ w', Below w.heap.size w w' → Q .normal a' w') l a) : (Code.region id l.toArray true).wp P Q a w :=
  wp_region_quiet (C := fun w' => ∃ p : Behind w, w' = p.v) hm hB ⟨⟨_, (Below.refl w.heap.size w).drew⟩, rfl⟩ (by
    have := wpQuiet_weak (Q' := fun a' => ∀ w', (∃ p : Behind w, w' = p.v) → Q .normal a' w') (fun a' hq w' hw => by
      obtain ⟨p, rfl⟩ := hw
      exact hq _ p.h) _ _ h
    exact this)
/-- a callee's contract, met behind w -/
theorem behind_of {P : Program} {f : FuncId} {args : Array Value} {w : World} {p : Behind w} {v : Value}
    (h : Calls P f args p.v fun e w' => e = .returned v ∧ Below p.v.heap.size p.v w') : Calls P f args p.v fun e w'' => e = .returned v ∧ ∃ q : Behind w, w'' = q.v :=
  h.mono fun _ w' ⟨he, hb⟩ => ⟨he, ⟨⟨w', p.h.trans (hb.mono p.h.size)⟩, rfl⟩⟩
theorem IsRow.at_ {k : IntKind} {w : World} {a : Option Addr} {len cap : Nat} {zs : List Int} (h : IsRow k w a len cap zs) (i : Nat) (hi : i < len) :
    ∃ b off, a = some ⟨b, off, none⟩ ∧ b < w.heap.size ∧ w.cell? ⟨b, off + i, none⟩ = some (.int k (zs.getD i 0)) ∧ (Lit.int k (zs.getD i 0)).wf = true := by
  rcases h with ⟨_, h0, _⟩ | ⟨x, rfl, hl, _, hz, hc, hw⟩
  · omega
  · have h1 := hc i (by omega)
    obtain ⟨b, off, spot⟩ := x
    have hs : spot = none := by
      have h00 := World.cell?_spot (hc 0 (by omega))
      unfold Addr.add at h00
      rw [if_pos rfl] at h00
      exact h00
    subst hs
    have he : (⟨b, off, none⟩ : Addr).add i = ⟨b, off + i, none⟩ := by unfold Addr.add; split <;> simp_all
    rw [he] at h1
    refine ⟨b, off, rfl, block_lt_of_cell h1, h1, hw _ ?_⟩
    rw [List.getD_eq_getElem?_getD, List.getElem?_eq_getElem (by omega), Option.getD_some]
    exact List.getElem_mem _
end Go.Proofs.YtfdhehjfbcddgaaDoor
