/- Words for ChainBeside: a row of links of the call's own, its cells, and what they lead to when only its own block is turned; two lists of ints as a row of rows; lists of ints alike. No conditions. -/
import Derived.Test.YtbeloaccgmgocaaP11
import Derived.Test.YtbeloaccgmgocaaHChFold
import Derived.Test.YtbeloaccgmgocaaPrx1
import Derived.Test.YtbeloaccgmgocaaPrx4
section
namespace Go.Proofs.Ytbeloaccgmgocaa.Pr
open Go.RowKit Go.Proofs.Ytbeloaccgmgocaa Go.Proofs.YtbeloaccgmgocaaW.PrintWords Go.Proofs.YtbeloaccgmgocaaW.PrintLast
set_option linter.unusedVariables false
/-- two links that hang on the uppermost one -/
def beside (ls : List SL) (n : Int) (x y : List SC) : List SL := ls ++ [⟨((ls.length + 1 : Nat) : Int), (ls.length : Int), ⟨n, x⟩⟩, ⟨((ls.length + 2 : Nat) : Int), (ls.length : Int), ⟨n, y⟩⟩]
theorem beside_len (ls : List SL) (n : Int) (x y : List SC) : (beside ls n x y).length = ls.length + 2 := by
  unfold beside
  rw [List.length_append]; rfl
theorem hang_path {n : Int} {ls : List SL} (h : RowOK n ls) (hp : 0 < ls.length) (rest : List SL) (hr : 0 < rest.length) (z : SL) (j : Nat) (hj : (ls ++ rest)[j]? = some z) (hf : (ls ++ rest).findIdx? (fun x => x.f0 == z.f0) = some j) (hz : z.f1 = (ls.length : Int)) (hid : (ls.length : Int) < z.f0) :
    pathP (ls ++ rest) z.f0 = (z :: ls.reverse, 0) := by
  obtain ⟨k, hk⟩ : ∃ k, ls.length = k + 1 := ⟨ls.length - 1, by omega⟩
  have hg : (ls ++ rest).getD j ⟨0, 0, ⟨0, []⟩⟩ = z := by rw [List.getD_eq_getElem?_getD, hj]; rfl
  unfold pathP
  rw [pathL, hf]
  simp only
  rw [if_neg (show ¬ hasL [] z.f0 = true from by unfold hasL; simp), hg, if_neg (by rw [hz]; omega), hz, hk]
  rw [path_row rest h k _ _ (by omega) (by rw [List.length_append]; omega) (fun x hx => by
    rw [List.nil_append, List.mem_singleton] at hx
    rw [hx]; omega)]
  rw [List.take_of_length_le (by omega)]
  rfl
theorem beside_find {n : Int} {ls : List SL} (h : RowOK n ls) (x y : List SC) (c : Nat) (hc : c < 2) : (beside ls n x y).findIdx? (fun z => z.f0 == ((ls.length + 1 + c : Nat) : Int)) = some (ls.length + c) := by
  have hb : beside ls n x y = ls ++ [⟨((ls.length + 1 : Nat) : Int), (ls.length : Int), ⟨n, x⟩⟩, ⟨((ls.length + 2 : Nat) : Int), (ls.length : Int), ⟨n, y⟩⟩] := rfl
  have hnone : ls.findIdx? (fun z => z.f0 == ((ls.length + 1 + c : Nat) : Int)) = none := by
    rw [List.findIdx?_eq_none_iff]
    intro z hz
    obtain ⟨i, hi, rfl⟩ := List.getElem_of_mem hz
    rw [(h.ids i hi).1, beq_eq_false_iff_ne]
    omega
  rw [hb, List.findIdx?_append, hnone]
  have h2 : c = 0 ∨ c = 1 := by omega
  rcases h2 with rfl | rfl
  · rw [List.findIdx?_cons, if_pos (by simp)]
    simp
  · rw [List.findIdx?_cons, if_neg (by simp; omega), List.findIdx?_cons, if_pos (by simp; omega)]
    simp
    omega
theorem beside_path {n : Int} {ls : List SL} (h : RowOK n ls) (hp : 0 < ls.length) (x y : List SC) : pathP (beside ls n x y) (ls.length : Int) = (ls.reverse, 0) := by
  obtain ⟨k, hk⟩ : ∃ k, ls.length = k + 1 := ⟨ls.length - 1, by omega⟩
  unfold pathP beside
  have := path_row [(⟨((ls.length + 1 : Nat) : Int), (ls.length : Int), ⟨n, x⟩⟩ : SL), ⟨((ls.length + 2 : Nat) : Int), (ls.length : Int), ⟨n, y⟩⟩] h k ((ls ++ [(⟨((ls.length + 1 : Nat) : Int), (ls.length : Int), ⟨n, x⟩⟩ : SL), ⟨((ls.length + 2 : Nat) : Int), (ls.length : Int), ⟨n, y⟩⟩]).length + 1) [] (by omega) (by rw [List.length_append]; omega) (fun x hx => by cases hx)
  rw [List.nil_append, List.take_of_length_le (by omega), ← hk] at this
  exact this
theorem beside_path1 {n : Int} {ls : List SL} (h : RowOK n ls) (hp : 0 < ls.length) (x y : List SC) : pathP (beside ls n x y) ((ls.length + 1 : Nat) : Int) = (⟨((ls.length + 1 : Nat) : Int), (ls.length : Int), ⟨n, x⟩⟩ :: ls.reverse, 0) := by
  refine hang_path h hp _ (by simp) ⟨((ls.length + 1 : Nat) : Int), (ls.length : Int), ⟨n, x⟩⟩ (ls.length + 0) ?_ (beside_find h x y 0 (by omega)) rfl ?_
  · rw [List.getElem?_append_right (by omega)]; simp
  · show (ls.length : Int) < ((ls.length + 1 : Nat) : Int); omega
theorem beside_path2 {n : Int} {ls : List SL} (h : RowOK n ls) (hp : 0 < ls.length) (x y : List SC) : pathP (beside ls n x y) ((ls.length + 2 : Nat) : Int) = (⟨((ls.length + 2 : Nat) : Int), (ls.length : Int), ⟨n, y⟩⟩ :: ls.reverse, 0) := by
  refine hang_path h hp _ (by simp) ⟨((ls.length + 2 : Nat) : Int), (ls.length : Int), ⟨n, y⟩⟩ (ls.length + 1) ?_ (beside_find h x y 1 (by omega)) rfl ?_
  · rw [List.getElem?_append_right (by omega)]; simp
  · show (ls.length : Int) < ((ls.length + 2 : Nat) : Int); omega
theorem beside_good {n : Int} {ls : List SL} (h : RowOK n ls) {x y : List SC} (hx : Good n x) (hy : Good n y) : ∀ z ∈ beside ls n x y, z.f2.f0 = n ∧ Good n z.f2.f1 := by
  intro z hz
  rcases List.mem_append.1 hz with hz | hz
  · exact h.good z hz
  · simp only [List.mem_cons, List.not_mem_nil, or_false] at hz
    rcases hz with rfl | rfl
    · exact ⟨rfl, hx⟩
    · exact ⟨rfl, hy⟩
theorem beside_sized {n : Int} {ls : List SL} (h : RowOK n ls) (h2 : n ≤ 64) {x y : List SC} (hx : Good n x) (hy : Good n y) : sizedL (beside ls n x y) = true := by
  unfold sizedL
  rw [List.all_eq_true]
  intro z hz
  have hg := (beside_good h hx hy z hz).2
  have := hg.length h2
  rw [Bool.and_eq_true, decide_eq_true_eq]
  exact ⟨by omega, hg.sized⟩
theorem read_way {l p : List SL} {a n i : Int} (hp : pathP l a = (p, 0)) (hc : cl0 p = n) (hi : 0 ≤ i ∧ i < n) : readL l a i = (throughL p i, 0) := by
  unfold readL
  rw [hp]
  simp only
  rw [if_neg (by decide), hc, if_neg (by omega)]
theorem beside_read {n : Int} {ls : List SL} (h : RowOK n ls) (hp : 0 < ls.length) (x y : List SC) (i : Int) (hi : 0 ≤ i ∧ i < n) :
    readL (beside ls n x y) (ls.length : Int) i = (throughL ls.reverse i, 0) ∧
    readL (beside ls n x y) ((ls.length + 1 : Nat) : Int) i = (if (getB x i).2 = true then (getB x i).1 else throughL ls.reverse i, 0) ∧
    readL (beside ls n x y) ((ls.length + 2 : Nat) : Int) i = (if (getB y i).2 = true then (getB y i).1 else throughL ls.reverse i, 0) :=
  ⟨read_way (beside_path h hp x y) (cl0_row h hp) hi, read_way (beside_path1 h hp x y) rfl hi, read_way (beside_path2 h hp x y) rfl hi⟩
theorem beside_ids {n : Int} {ls : List SL} (h : RowOK n ls) (hp : 0 < ls.length) (x y : List SC) :
    idsL (beside ls n x y) (ls.length : Int) = (ls.reverse.map (·.f0), 0) ∧ idsL (beside ls n x y) ((ls.length + 2 : Nat) : Int) = (((ls.length + 2 : Nat) : Int) :: ls.reverse.map (·.f0), 0) := by
  constructor
  · unfold idsL
    rw [beside_path h hp x y]
    simp only
    rw [if_neg (by decide)]
  · unfold idsL
    rw [beside_path2 h hp x y]
    simp only
    rw [if_neg (by decide)]
    rfl
end Go.Proofs.Ytbeloaccgmgocaa.Pr
end
section
namespace Go.Proofs.Ytbeloaccgmgocaa.Pr
open Go.RowKit Go.Proofs.Ytbeloaccgmgocaa Go.Proofs.YtbeloaccgmgocaaW.PrintWords Go.Proofs.YtbeloaccgmgocaaW.PrintLast
set_option linter.unusedVariables false
theorem row_len_l0 {n : Int} (h1 : 1 ≤ n) (h2 : n ≤ 64) (l : List (List Int)) (hl : ∀ x ∈ l, ∀ y ∈ x, (Lit.int .i64 y).wf = true) (d : Nat) : ∀ (i : Nat) (acc : List SL), i + d = min l.length 12 → acc.length = i → RowOK n acc →
    ∃ ls, Ev (fun k => rootcellarlaw11_row.l0 k n l acc (i : Int)) ls ∧ RowOK n ls ∧ ls.length = i + d := by
  induction d with
  | zero =>
    intro i acc hi ha hr
    refine ⟨acc, Ev.step (f := fun k => rootcellarlaw11_row.j1 k n l acc (i : Int) false) (fun k => ?_) (Ev.step (f := fun _ => some acc) (fun k => ?_) (Ev.now _)), hr, by omega⟩
    · rw [rootcellarlaw11_row.l0]
      by_cases hlt : (i : Int) < (l.length : Int)
      · rw [if_pos hlt, show decide ((i : Int) < 12) = false by simp; omega]
      · rw [if_neg hlt]
    · rw [rootcellarlaw11_row.j1, if_neg (by decide)]
  | succ d ih =>
    intro i acc hi ha hr
    have hil : i < l.length := by omega
    obtain ⟨m, hm, hk⟩ := row_l1 h1 h2 l acc i hil (hl _ (List.getElem_mem hil)) (by omega) (by omega) _ 0 [] (by rw [Nat.zero_add]) (Good.nil n)
    have hs := hr.snoc hm
    rw [ha] at hs
    obtain ⟨ls, he, ho, h12⟩ := ih (i + 1) (acc ++ [⟨((i + 1 : Nat) : Int), (i : Int), ⟨n, m⟩⟩]) (by omega) (by rw [List.length_append, ha]; rfl) hs
    refine ⟨ls, Ev.step (f := fun k => rootcellarlaw11_row.j1 k n l acc (i : Int) true) (fun k => ?_) (Ev.step (fun k => ?_) (hk ls he)), ho, by omega⟩
    · rw [rootcellarlaw11_row.l0, if_pos (by omega), show decide ((i : Int) < 12) = true by simp; omega]
    · rw [rootcellarlaw11_row.j1, if_pos rfl, new_ok h1 h2, Option.bind_some]; rfl
theorem row_two {n : Int} (h1 : 1 ≤ n) (h2 : n ≤ 64) (a b : List Int) (ha : ∀ y ∈ a, (Lit.int .i64 y).wf = true) (hb : ∀ y ∈ b, (Lit.int .i64 y).wf = true) : ∃ x y : List SC, Ev (fun k => rootcellarlaw11_row.f k n [a, b]) [⟨1, 0, ⟨n, x⟩⟩, ⟨2, 1, ⟨n, y⟩⟩] ∧ Good n x ∧ Good n y := by
  obtain ⟨ls, he, ho, hl⟩ := row_len_l0 h1 h2 [a, b] (fun x hx => by simp only [List.mem_cons, List.not_mem_nil, or_false] at hx; rcases hx with rfl | rfl <;> assumption) 2 0 [] (by simp) rfl (RowOK.nil n)
  match ls, hl with
  | [u, v], _ =>
    have u1 := ho.ids 0 (by simp)
    have v1 := ho.ids 1 (by simp)
    have u2 := ho.good u (by simp)
    have v2 := ho.good v (by simp)
    obtain ⟨u0, up, un, ul⟩ := u
    obtain ⟨v0, vp, vn, vl⟩ := v
    simp only [List.getElem_cons_zero, List.getElem_cons_succ] at u1 v1 u2 v2
    obtain ⟨rfl, rfl⟩ := u1
    obtain ⟨rfl, rfl⟩ := v1
    obtain ⟨rfl, hu⟩ := u2
    obtain ⟨rfl, hv⟩ := v2
    exact ⟨ul, vl, he, hu, hv⟩
theorem same_l0 (l : List Int) (hl : l.length ≤ 1000000) (d : Nat) : ∀ i : Nat, i + d = l.length → Ev (fun k => rootcellarlaw11_sameInts.l0 k l l (i : Int)) true := by
  induction d with
  | zero =>
    intro i hi
    refine Ev.step (f := fun _ => some true) (fun k => ?_) (Ev.now _)
    rw [rootcellarlaw11_sameInts.l0, if_neg (by omega)]
  | succ d ih =>
    intro i hi
    refine Ev.step (f := fun k => rootcellarlaw11_sameInts.l0 k l l ((i + 1 : Nat) : Int)) (fun k => ?_) (ih (i + 1) (by omega))
    rw [rootcellarlaw11_sameInts.l0, if_pos (by omega), if_pos (by omega), if_pos (by omega), if_pos rfl, show wrap64 ((i : Int) + 1) = ((i + 1 : Nat) : Int) by rw [w64 (by omega)]; omega]
theorem same_ok (l : List Int) (hl : l.length ≤ 1000000) : Ev (fun k => rootcellarlaw11_sameInts.f k l l) true := by
  refine Ev.congr (fun k => ?_) (same_l0 l hl l.length 0 (by omega))
  unfold rootcellarlaw11_sameInts.f
  rw [if_pos rfl]; rfl
theorem pair_C {w : World} {a b : List Int} {A B : Option Addr} {ca cb : Nat} (ha : Kd.C (Kd.int .i64) w A a.length a) (hb : Kd.C (Kd.int .i64) w B b.length b) (la : a.length ≤ ca) (lb : b.length ≤ cb) :
    Kd.C (Kd.slice 3 (Kd.int .i64)) (w.alloc (.cells #[.slice A a.length ca, .slice B b.length cb] 33)) (some ⟨w.heap.size, 0, none⟩) 2 [a, b] := by
  refine ⟨rfl, by decide, fun _ => ⟨_, rfl, fun j p hj => ?_⟩⟩
  have hk := Blk.new w 33 #[.slice A a.length ca, .slice B b.length cb]
  match j, hj with
  | 0, hj =>
    obtain rfl := Option.some.inj hj
    refine ⟨[.slice A a.length ca], rfl, ⟨A, ca, rfl, la, Kd.C_alloc ha _⟩, fun i u hu => ?_⟩
    match i, hu with
    | 0, hu =>
      obtain rfl := Option.some.inj hu
      rw [add_plain]
      exact hk.cell 0
  | 1, hj =>
    obtain rfl := Option.some.inj hj
    refine ⟨[.slice B b.length cb], rfl, ⟨B, cb, rfl, lb, Kd.C_alloc hb _⟩, fun i u hu => ?_⟩
    match i, hu with
    | 0, hu =>
      obtain rfl := Option.some.inj hu
      rw [add_plain]
      exact hk.cell 1
/-- a row of links of the call's own: its cells; and what they lead to stays as long as the blocks from base on stay, but for the row's own -/
theorem links_kept {w : World} {base g n c : Nat} {ok : Nat → Prop} {ls : List SL} (h : Kd.R kL 32 w base ok (.slice (some ⟨g, 0, none⟩) n c) ls) :
    ∃ K : List LK, K.map (·.1) = ls ∧ w.ownsRow base 32 4 (.slice (some ⟨g, 0, none⟩) n c) ls.length (flatE encK K) ∧
      ∀ w1 : World, (∀ k, base ≤ k → k ≠ g → k < w.heap.size → w1.heap[k]? = w.heap[k]?) → FoundAll w1 K := by
  obtain ⟨h0, inner, ho, hlen, hr⟩ := Kd.R_bound h
  have hex : ∀ i : Fin ls.length, ∃ p : Option Addr × Nat, (inner.drop (i.1 * 4)).take 4 = encK (ls[i.1], p.1, p.2) ∧ ∀ w1 : World, (∀ k, base ≤ k → k ≠ g → k < w.heap.size → w1.heap[k]? = w.heap[k]?) → FoundAt w1 ls[i.1] p.1 p.2 := fun i => by
    have hm := hr i.1 _ (List.getElem?_eq_getElem i.2)
    obtain ⟨v3, hc, hR⟩ := k32_openM hm
    obtain ⟨B, cap, rfl, hle, _⟩ := Kd.R_reads hR
    refine ⟨(B, cap), hc, fun w1 hw => ⟨hle, (Kd.R_reads' (Kd.R_step hR (fun k hk hlt => hw k hk.1.2.1 (fun e => hk.2 (by rw [e]; rfl)) hlt))).2.2⟩⟩
  let K : List LK := List.ofFn fun i : Fin ls.length => (ls[i.1], (Classical.choose (hex i)).1, (Classical.choose (hex i)).2)
  have hKl : K.length = ls.length := List.length_ofFn
  have hin : inner = flatE encK K := by
    apply List.ext_getElem?
    intro j
    rcases Nat.lt_or_ge j inner.length with hj | hj
    · have hjl : j / 4 < ls.length := by rw [hlen] at hj; show j / 4 < ls.length; have : kL.sz = 4 := rfl; rw [this] at hj; omega
      have hg := flatE_get encK_len K (j / 4) (by omega) (j % 4) (by omega)
      rw [show j / 4 * 4 + j % 4 = j by omega] at hg
      rw [hg, show K[j / 4]'(by omega) = (ls[j / 4], (Classical.choose (hex ⟨j / 4, hjl⟩)).1, (Classical.choose (hex ⟨j / 4, hjl⟩)).2) from List.getElem_ofFn _, ← (Classical.choose_spec (hex ⟨j / 4, hjl⟩)).1, List.getElem?_take_of_lt (by omega), List.getElem?_drop, show j / 4 * 4 + j % 4 = j by omega]
    · rw [List.getElem?_eq_none hj, List.getElem?_eq_none]
      rw [flatE_length encK_len, hKl]
      rw [hlen] at hj
      exact hj
  refine ⟨K, ?_, by rw [← hin]; exact ho, fun w1 hw x hx => ?_⟩
  · apply List.ext_getElem
    · rw [List.length_map, hKl]
    · intro i h1 h2
      rw [List.getElem_map, show K[i]'(by omega) = (ls[i], (Classical.choose (hex ⟨i, h2⟩)).1, (Classical.choose (hex ⟨i, h2⟩)).2) from List.getElem_ofFn _]
  · obtain ⟨i, rfl⟩ := List.mem_ofFn.1 hx
    exact (Classical.choose_spec (hex i)).2 w1 hw
end Go.Proofs.Ytbeloaccgmgocaa.Pr
end
