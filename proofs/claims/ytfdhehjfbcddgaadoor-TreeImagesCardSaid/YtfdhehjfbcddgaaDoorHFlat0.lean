/- Rows of elements of k cells, told by their cells: plain laws of lists, copies into a row, what a row of the call's own is. No conditions. -/
import Derived.Test.YtfdhehjfbcddgaaDoorWMore
import Derived.Test.YtfdhehjfbcddgaaDoorWNEv
import Derived.Test.YtfdhehjfbcddgaaDoorWords
import Derived.Laws.CopyRow
import Derived.Laws.CopyOwn
namespace Go.Proofs.YtfdhehjfbcddgaaDoor
open Go.RowKit Go.Proofs.YtfdhehjfbcddgaaDoorW.PrintWords
set_option linter.unusedVariables false
section
variable {α : Type} {enc : α → List Value} {k : Nat}
def flatE (enc : α → List Value) (l : List α) : List Value := l.flatMap enc
theorem flatE_nil : flatE enc [] = [] := rfl
theorem flatE_cons (x : α) (l : List α) : flatE enc (x :: l) = enc x ++ flatE enc l := by simp [flatE]
theorem flatE_append (l m : List α) : flatE enc (l ++ m) = flatE enc l ++ flatE enc m := by simp [flatE]
theorem flatE_length (hk : ∀ x, (enc x).length = k) (l : List α) : (flatE enc l).length = l.length * k := by
  induction l with
  | nil => simp [flatE]
  | cons x l ih => rw [flatE_cons, List.length_append, hk, ih, List.length_cons, Nat.succ_mul, Nat.add_comm]
theorem flatE_drop (hk : ∀ x, (enc x).length = k) (l : List α) (i : Nat) : flatE enc (l.drop i) = (flatE enc l).drop (i * k) := by
  rcases Nat.lt_or_ge l.length i with h | h
  · rw [List.drop_of_length_le (by omega), List.drop_of_length_le]; · rfl
    rw [flatE_length hk]; exact Nat.mul_le_mul_right _ (by omega)
  · have e := congrArg (flatE enc) (List.take_append_drop i l)
    rw [flatE_append] at e
    have hl : (flatE enc (l.take i)).length = i * k := by rw [flatE_length hk, List.length_take, Nat.min_eq_left h]
    have e2 := congrArg (List.drop (i * k)) e
    rw [List.drop_left' hl] at e2
    exact e2
theorem flatE_take (hk : ∀ x, (enc x).length = k) (l : List α) (i : Nat) : flatE enc (l.take i) = (flatE enc l).take (i * k) := by
  rcases Nat.lt_or_ge l.length i with h | h
  · rw [List.take_of_length_le (by omega), List.take_of_length_le]
    rw [flatE_length hk]; exact Nat.mul_le_mul_right _ (by omega)
  · have e := congrArg (flatE enc) (List.take_append_drop i l)
    rw [flatE_append] at e
    have hl : (flatE enc (l.take i)).length = i * k := by rw [flatE_length hk, List.length_take, Nat.min_eq_left h]
    have e2 := congrArg (List.take (i * k)) e
    rw [List.take_left' hl] at e2
    exact e2
theorem flatE_get (hk : ∀ x, (enc x).length = k) (l : List α) (i : Nat) (h : i < l.length) (j : Nat) (hj : j < k) : (flatE enc l)[i * k + j]? = (enc l[i])[j]? := by
  have e : flatE enc l = flatE enc (l.take i) ++ (enc l[i] ++ flatE enc (l.drop (i + 1))) := by
    rw [← flatE_cons, ← flatE_append, ← List.drop_eq_getElem_cons h, List.take_append_drop]
  have hl : (flatE enc (l.take i)).length = i * k := by rw [flatE_length hk, List.length_take, Nat.min_eq_left (by omega)]
  rw [e, List.getElem?_append_right (by omega), hl, Nat.add_sub_cancel_left, List.getElem?_append_left (by rw [hk]; exact hj)]
theorem flatE_one (h1 : ∀ x, ∀ u ∈ enc x, u.oneCell' = true) (l : List α) : ∀ u ∈ flatE enc l, u.oneCell' = true := by
  intro u hu
  obtain ⟨x, _, hx⟩ := List.mem_flatMap.1 hu
  exact h1 x u hx
end
/-- copy(d, s) at elements of k cells, d in a row that may be written -/
theorem run_copy_rowK {P : Program} (w : World) (dT sT ty elem : TypeId) (g o dLen dCap : Nat) (a : Addr) (sLen sCap : Nat) (cur : Array Value) (t : TypeId) (cs : List Value) (k : Nat)
    (hu : P.underlying dT = some (.slice elem)) (hs : (P.info? elem).map (·.size) = some k)
    (hg : w.heap[g]? = some (.cells cur t (0, 0))) (hn : cs.length = Nat.min sLen dLen * k)
    (hsrc : ∀ j v, cs[j]? = some v → w.cell? (a.add j) = some v) (hfit : o + cs.length ≤ cur.size) (h1 : ∀ v ∈ cs, v.oneCell' = true) :
    (Builtin.copy_ #[dT, sT] ty #[.slice (some ⟨g, o, none⟩) dLen dCap, .slice (some a) sLen sCap]).run P w =
      .ok (goInt (Nat.min sLen dLen)) (w.setRow g (cur.toList.take o ++ cs ++ cur.toList.drop (o + cs.length)).toArray) := by
  have hl := run_loadCells_list (P := P) w a cs hsrc
  have hst := run_storeCells_at P g o t cs 0 cur w hg (by simpa using hfit) h1
  cases hq : P.info? elem with
  | none => simp [hq] at hs
  | some i =>
    have hi : i.size = k := by simpa [hq] using hs
    have hmul : ∀ x y : Nat, x * y = Nat.mul x y := fun _ _ => rfl
    simp [Builtin.copy_, run_underlying hu, Builtin.lenOf, Builtin.firstCells, sizeOf, typeInfo, hq, hi, ← hn, hl, hst]
theorem wp_copy_run {P : Program} (w : World) {o : Oper} {a : Act} {K : Act → World → Prop} {Q : Exit → Act → World → Prop} (d s : Operand) (t t' : TypeId)
    (ho : o.op = .call { callee := .builtin .copy, args := #[d, s], argTypes := #[t, t'] }) (v u : Value) (hd : a.eval d = v) (hs : a.eval s = u) {v' : Value} {w' : World}
    (hr : (Builtin.copy_ #[t, t'] o.type #[v, u]).run P w = .ok v' w') (h : K (a.put o.dst v') w') : o.wp P a w K Q := by
  unfold Oper.wp execOp
  simp only [ho, resolve, invoke, builtin, Sem.run_bind, Sem.run_pure, Result.andThen_ok, List.map_toArray, List.map_cons, List.map_nil, hd, hs, hr]
  exact h
theorem wpList_copy_run' {P : Program} (w : World) {ops : Array Oper} {rest : List Oper} {o : Oper} {a : Act} {Q : Exit → Act → World → Prop} (hgd : o.guard = none) (d s : Operand) (t t' : TypeId)
    (ho : o.op = .call { callee := .builtin .copy, args := #[d, s], argTypes := #[t, t'] }) (v u : Value) (hd : a.eval d = v) (hs : a.eval s = u) {v' : Value} {w' : World}
    (hr : (Builtin.copy_ #[t, t'] o.type #[v, u]).run P w = .ok v' w') (h : wpList P ops Q rest (a.put o.dst v') w') : wpList P ops Q (o :: rest) a w :=
  wpList_plain hgd fun _ hK => wp_copy_run w d s t t' ho v u hd hs hr (hK _ _ h)
theorem step_copy_run' {P : Program} {ops : Array Oper} {o : Oper} {a : Act} {w : World} {K : Act → World → Prop} {Q : Exit → Act → World → Prop} {E : Prop}
    (hg : o.guard = none) (d x : Operand) (dT sT : TypeId) (hop : o.op = Op.call { callee := Callee.builtin Builtin.copy, args := #[d, x], argTypes := #[dT, sT] })
    (v u : Value) (hd : a.eval d = v) (hx : a.eval x = u) {v' : Value} {w' : World} (hr : (Builtin.copy_ #[dT, sT] o.type #[v, u]).run P w = .ok v' w') (hK : K (a.put o.dst v') w') :
    if Region.wanted o (yielded ops a.tmps) = true then Oper.wp P o a w K Q else E := by
  have hw : Region.wanted o (yielded ops a.tmps) = true := by simp [Region.wanted, hg]
  rw [if_pos hw]
  unfold Oper.wp
  simp [execOp, hop, resolve, invoke, builtin, hd, hx, hr, Result.andThen]
  exact hK
section
variable {α : Type} {enc : α → List Value} {d : Kd α}
theorem reps_flat (hk : ∀ x, (enc x).length = d.sz) {w : World} {base : Nat} {ok : Nat → Prop} (hM : ∀ x, d.M w base ok x (enc x)) (l : List α) : Reps (d.M w base ok) d.sz l (flatE enc l) := by
  refine ⟨flatE_length hk l, fun j p hp => ?_⟩
  obtain ⟨hj, rfl⟩ := List.getElem?_eq_some_iff.1 hp
  have : (List.take d.sz (List.drop (j * d.sz) (flatE enc l))) = enc l[j] := by
    rw [← flatE_drop hk, List.drop_eq_getElem_cons hj, flatE_cons, List.take_append_of_le_length (by rw [hk]; exact Nat.le_refl _), List.take_of_length_le (by rw [hk]; exact Nat.le_refl _)]
  rw [this]
  exact hM _
theorem R_of_own (hk : ∀ x, (enc x).length = d.sz) (hM : ∀ w base ok x, d.M w base ok x (enc x)) {e : Nat} {w : World} {base : Nat} {ok : Nat → Prop} {v : Value} {l : List α} (h : w.ownsRow base e d.sz v l.length (flatE enc l)) (hok : ∀ k, v.ownBlock = some k → ok k) : Kd.R d e w base ok v l :=
  ⟨hok, flatE enc l, h, reps_flat hk (fun x => hM _ _ _ x) l⟩
theorem own_of_R (hk : ∀ x, (enc x).length = d.sz) (hM : ∀ w base ok x cs, d.M w base ok x cs → cs = enc x) {e : Nat} {w : World} {base : Nat} {ok : Nat → Prop} {v : Value} {l : List α} (h : Kd.R d e w base ok v l) : w.ownsRow base e d.sz v l.length (flatE enc l) := by
  obtain ⟨_, inner, ho, hr⟩ := h
  have : inner = flatE enc l := by
    have hl : inner.length = (flatE enc l).length := by rw [hr.1, flatE_length hk]
    have key : ∀ m, m ≤ l.length → inner.take (m * d.sz) = flatE enc (l.take m) := by
      intro m
      induction m with
      | zero => intro _; simp [flatE]
      | succ m ih =>
        intro hm
        have hm' : m < l.length := by omega
        have h2 := hM _ _ _ _ _ (hr.2 m l[m] (List.getElem?_eq_getElem hm'))
        rw [List.take_succ_eq_append_getElem hm', flatE_append, ← ih (by omega), flatE_cons, flatE_nil, List.append_nil, Nat.succ_mul, List.take_add, h2]
    have := key l.length (Nat.le_refl _)
    rw [List.take_length, List.take_of_length_le (by rw [hr.1]; exact Nat.le_refl _)] at this
    exact this
  rw [this] at ho
  exact ho
end
end Go.Proofs.YtfdhehjfbcddgaaDoor
