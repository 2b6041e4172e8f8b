/- ChainBeside by hand: what hangs beside is not seen; two that hang on one link read as it does, where they have nothing of their own. No conditions but that the numbers fit. -/
import Derived.Test.YtbeloaccgmgocaaBesideP
import Derived.BigFrame
import Derived.BigGuardPart
import Derived.Test.YtbeloaccgmgocaaPrx1
import Derived.Test.YtbeloaccgmgocaaPrx4
namespace Go.Proofs.Ytbeloaccgmgocaa.Pr
open Go.RowKit Go.Proofs.Ytbeloaccgmgocaa Go.Proofs.YtbeloaccgmgocaaW.PrintWords Go.Proofs.YtbeloaccgmgocaaW.PrintLast
set_option linter.unusedVariables false
theorem own_succT {w : World} {base n : Nat} {e : TypeId} {size : Nat} {v : Value} {xs : List Value} (h : w.ownsRow base e size v (n + 1) xs) : ∃ g cap, v = .slice (some ⟨g, 0, none⟩) (n + 1) cap ∧ base ≤ g ∧ n + 1 ≤ cap := by
  rcases h.2 with ⟨_, h0⟩ | ⟨g, cap, _, rfl, hb, _, hc, _⟩
  · omega
  · exact ⟨g, cap, rfl, hb, hc⟩
theorem two_links {K : List LK} {u v : SL} (h : K.map (·.1) = [u, v]) : ∃ (B C : Option Addr) (b c : Nat), K = [(u, B, b), (v, C, c)] := by
  match K, h with
  | [x, y], h =>
    simp only [List.map_cons, List.map_nil, List.cons.injEq, and_true] at h
    obtain ⟨rfl, rfl⟩ := h
    exact ⟨x.2.1, y.2.1, x.2.2, y.2.2, rfl⟩
theorem step_append_own {P : Program} (w : World) {ops : Array Oper} {o : Oper} {a : Act} {K : Act → World → Prop} {Q : Exit → Act → World → Prop} {E : Prop} (hgd : o.guard = none) (s x : Operand) (t : TypeId)
    (ho : o.op = .call { callee := .builtin .append, args := #[s, x], argTypes := #[t, t] })
    (base : Nat) (e : TypeId) (i : TypeInfo) (z : Value) (size bytes : Nat) (ht : P.underlying t = some (.slice e)) (hi : P.info? e = some i) (hz : i.zero = some z)
    (hsize : i.size = size) (hby : i.bytes = bytes) (hzs : z.cells.size = size) (hsz : 0 < size)
    (v : Value) (n : Nat) (xs : List Value) (hs : a.eval s = v) (hown : w.ownsRow base e size v n xs)
    (ad : Addr) (m c : Nat) (news : List Value) (hx : a.eval x = .slice (some ad) m c) (hl : news.length = m * size) (hnews : ∀ j u, news[j]? = some u → w.cell? (ad.add j) = some u) (h1 : ∀ u ∈ news, u.oneCell' = true)
    (h63 : n + m ≤ maxLen) (hbytes : (n + m) * bytes ≤ 140737488355328) (hbase : base ≤ w.heap.size)
    (h : ∀ v' w', w'.ownsRow base e size v' (n + m) (xs ++ news) → w.grownBy w' v.ownBlock → (v' = .slice none 0 0 ↔ v = .slice none 0 0 ∧ m = 0) → K (a.put o.dst v') w') :
    if Region.wanted o (yielded ops a.tmps) = true then Oper.wp P o a w K Q else E := by
  rw [if_pos (by simp [Region.wanted, hgd])]
  exact wp_append_own w s x t ho base e i z size bytes ht hi hz hsize hby hzs hsz v n xs hs hown ad m c news hx hl hnews h1 h63 hbytes hbase h
theorem beside_end {w w2 w3 w4 w5 : World} {q b0 g4 c4 cx cy : Nat} {n : Int} {ls l2 : List SL} {X Y : List SC} {Bx By : Option Addr} {KL : List LK} {v5 : Value} (hw2 : w.heap.size ≤ w2.heap.size) (h3 : Below w.heap.size w w3) (hbb : w2.heap.size ≤ b0) (hbl : b0 < w3.heap.size) (hg4 : w3.heap.size + 1 ≤ g4) (hK1 : KL.map (·.1) = ls) (hq : q + 1 = ls.length)
    (hK3 : ∀ w1 : World, (∀ k, w2.heap.size ≤ k → k ≠ b0 → k < w3.heap.size → w1.heap[k]? = w3.heap[k]?) → FoundAll w1 KL)
    (h34 : Below w3.heap.size w3 w4) (hM2 : w4.ownsRow (w3.heap.size + 1) 32 4 (.slice (some ⟨g4, 0, none⟩) 2 c4) 2 (flatE encK [(⟨1, 0, ⟨n, X⟩⟩, Bx, cx), (⟨2, 1, ⟨n, Y⟩⟩, By, cy)]))
    (hM3 : ∀ w1 : World, (∀ k, w3.heap.size + 1 ≤ k → k ≠ g4 → k < w4.heap.size → w1.heap[k]? = w4.heap[k]?) → FoundAll w1 [(⟨1, 0, ⟨n, X⟩⟩, Bx, cx), (⟨2, 1, ⟨n, Y⟩⟩, By, cy)])
    (hl2 : l2 = ([⟨1, 0, ⟨n, X⟩⟩, ⟨2, 1, ⟨n, Y⟩⟩] : List SL))
    (hown5 : w5.ownsRow w2.heap.size 32 4 v5 (q + 1 + 2) (flatE encK KL ++ (#[.int .i64 ((q : Int) + 1 + 1), .int .i64 ((q : Int) + 1), .int .i64 n, .slice Bx X.length cx, .int .i64 ((q : Int) + 1 + 2), .int .i64 ((q : Int) + 1), .int .i64 n, .slice By Y.length cy] : Array Value).toList))
    (hg5 : ((w4.alloc (.cells #[.int .i64 ((q : Int) + 1 + 1), .int .i64 ((q : Int) + 1), .int .i64 n, .slice Bx X.length cx, .int .i64 ((q : Int) + 1 + 2), .int .i64 ((q : Int) + 1), .int .i64 n, .slice By Y.length cy] 32)).drew).grownBy w5 (some b0)) :
    ∃ (g5 c5 : Nat), v5 = .slice (some ⟨g5, 0, none⟩) (q + 3) c5 ∧ Hid (LinksAt w5 (some ⟨g5, 0, none⟩) (beside ls n X Y)) ∧ Hid (LinksAt w5 (some ⟨g4, 0, none⟩) l2) ∧ Hid (Below w.heap.size w w5) := by
  have hb4W : Below w4.heap.size w4 ((w4.alloc (.cells #[.int .i64 ((q : Int) + 1 + 1), .int .i64 ((q : Int) + 1), .int .i64 n, .slice Bx X.length cx, .int .i64 ((q : Int) + 1 + 2), .int .i64 ((q : Int) + 1), .int .i64 n, .slice By Y.length cy] 32)).drew) := below_drew (below_alloc (w := w4) (Below.refl _ _) _)
  have s4 := hb4W.size
  have s3 := h34.size
  have hb3W : Below w3.heap.size w3 ((w4.alloc (.cells #[.int .i64 ((q : Int) + 1 + 1), .int .i64 ((q : Int) + 1), .int .i64 n, .slice Bx X.length cx, .int .i64 ((q : Int) + 1 + 2), .int .i64 ((q : Int) + 1), .int .i64 n, .slice By Y.length cy] 32)).drew) := h34.trans (hb4W.mono s3)
  have fa : FoundAll w5 KL := hK3 w5 (fun k _ h1 h2 => (hg5.block k (by omega) (by simpa using h1)).trans (hb3W.block k h2))
  have fb := hM3 w5 (fun k h0 _ h2 => (hg5.block k (by omega) (by simp; omega)).trans (hb4W.block k h2))
  have hKl : KL.length = q + 1 := by rw [hq, ← hK1, List.length_map]
  obtain ⟨g5, c5, rfl, _, _⟩ := own_succT hown5
  refine ⟨g5, c5, rfl, Lib.hid ?_, Lib.hid ?_, Lib.hid ?_⟩
  · have hfall : FoundAll w5 (KL ++ [((⟨(q : Int) + 1 + 1, (q : Int) + 1, ⟨n, X⟩⟩, Bx, cx) : LK), (⟨(q : Int) + 1 + 2, (q : Int) + 1, ⟨n, Y⟩⟩, By, cy)]) := by
      intro x hx
      rcases List.mem_append.1 hx with hx | hx
      · exact fa x hx
      · simp only [List.mem_cons, List.not_mem_nil, or_false] at hx
        rcases hx with rfl | rfl
        · exact fb (⟨1, 0, ⟨n, X⟩⟩, Bx, cx) (by simp)
        · exact fb (⟨2, 1, ⟨n, Y⟩⟩, By, cy) (by simp)
    have hm : (KL ++ [((⟨(q : Int) + 1 + 1, (q : Int) + 1, ⟨n, X⟩⟩, Bx, cx) : LK), (⟨(q : Int) + 1 + 2, (q : Int) + 1, ⟨n, Y⟩⟩, By, cy)]).map (·.1) = beside ls n X Y := by
      rw [List.map_append, hK1]
      unfold beside
      rw [← hq]
      rfl
    have := links_of_own (show ownK w5 w2.heap.size (.slice (some ⟨g5, 0, none⟩) (q + 1 + 2) c5) (KL ++ [((⟨(q : Int) + 1 + 1, (q : Int) + 1, ⟨n, X⟩⟩, Bx, cx) : LK), (⟨(q : Int) + 1 + 2, (q : Int) + 1, ⟨n, Y⟩⟩, By, cy)]) from by
      show World.ownsRow _ _ _ _ _ _ _
      rw [List.length_append, hKl, flatE_append]
      exact hown5) hfall
    rw [hm] at this
    exact this
  · have ho : w5.ownsRow (w3.heap.size + 1) 32 4 (.slice (some ⟨g4, 0, none⟩) 2 c4) 2 (flatE encK [((⟨1, 0, ⟨n, X⟩⟩, Bx, cx) : LK), (⟨2, 1, ⟨n, Y⟩⟩, By, cy)]) := own_other (pw_own_below hM2 hb4W) hg5 (.inr (by simp [Value.ownBlock]; omega))
    have := links_of_own (l := [((⟨1, 0, ⟨n, X⟩⟩, Bx, cx) : LK), (⟨2, 1, ⟨n, Y⟩⟩, By, cy)]) ho fb
    rw [hl2]
    exact this
  · exact pw_below_grown (h3.trans (hb3W.mono h3.size)) (some b0) (by have := h3.size; omega) hg5 (fun k hk => by injection hk with hk; omega)
set_option maxRecDepth 100000 in
set_option maxHeartbeats 16000000 in
theorem beside_any (c : Int) (A : Option Addr) (cap : Nat) (l : List (List Int)) (Aa : Option Addr) (ca : Nat) (la : List Int) (Ab : Option Addr) (cb : Nat) (lb : List Int) (w : World) (hr : Kd.C (Kd.slice 3 (Kd.int .i64)) w A l.length l) (hcap : l.length ≤ cap) (hra : Kd.C (Kd.int .i64) w Aa la.length la) (hca : la.length ≤ ca) (hrb : Kd.C (Kd.int .i64) w Ab lb.length lb) (hcb : lb.length ≤ cb) (hc : (Lit.int .i64 c).wf = true) (hl : ∀ x ∈ l, ∀ y ∈ x, (Lit.int .i64 y).wf = true) (hla : ∀ y ∈ la, (Lit.int .i64 y).wf = true) (hlb : ∀ y ∈ lb, (Lit.int .i64 y).wf = true) :
    Calls Try.prog 4 #[.int .i64 c, .slice A l.length cap, .slice Aa la.length ca, .slice Ab lb.length cb] w fun e w' => e = .returned (.bool true) ∧ Below w.heap.size w w' := by
  have hpc := pick_ok c 64 hc (by omega)
  have hrc := pickV_range c 64 (by omega)
  obtain ⟨P, hP⟩ : ∃ P : Nat, pickV c 64 = (P : Int) := ⟨(pickV c 64).toNat, by omega⟩
  rw [hP] at hpc hrc
  have hP64 : P < 64 := by omega
  obtain ⟨ls, ⟨K1, k1⟩, hrow, hlen⟩ := row_ev (n := 1 + (P : Int)) (by omega) (by omega) l hl
  replace k1 := k1 K1 (Nat.le_refl _)
  dsimp only at k1
  obtain ⟨X, Y, ⟨K2, k2⟩, hgX, hgY⟩ := row_two (n := 1 + (P : Int)) (by omega) (by omega) la lb hla hlb
  replace k2 := k2 K2 (Nat.le_refl _)
  dsimp only at k2
  obtain ⟨l2, hl2⟩ : ∃ l2, l2 = ([⟨1, 0, ⟨1 + (P : Int), X⟩⟩, ⟨2, 1, ⟨1 + (P : Int), Y⟩⟩] : List SL) := ⟨_, rfl⟩
  rw [← hl2] at k2
  have hc1 := fun w => rootcellarlaw11_pick.calls c 64 (P : Int) w hpc
  have hcr := fun (w1 : World) (h1 : Below w.heap.size w w1) => rootcellarlaw11_row.calls K1 (1 + (P : Int)) A cap l ls w1 (Kd.C_below hr h1) hcap k1
  have hcr2 : ∀ (w1 : World), Below w.heap.size w w1 → Calls Try.prog 15 #[.int .i64 (1 + (P : Int)), .slice (some ⟨w1.heap.size, 0, none⟩) 2 2] (w1.alloc (.cells #[.slice Aa la.length ca, .slice Ab lb.length cb] 33)) fun e w' => ∃ v0 : Value, e = .returned v0 ∧ Kd.S kL 32 w' (w1.alloc (.cells #[.slice Aa la.length ca, .slice Ab lb.length cb] 33)).heap.size (fun _ => True) v0 l2 ∧ Below (w1.alloc (.cells #[.slice Aa la.length ca, .slice Ab lb.length cb] 33)).heap.size (w1.alloc (.cells #[.slice Aa la.length ca, .slice Ab lb.length cb] 33)) w' := by
    intro w1 h1
    exact rootcellarlaw11_row.calls K2 (1 + (P : Int)) (some ⟨w1.heap.size, 0, none⟩) 2 [la, lb] l2 _ (pair_C (Kd.C_below hra h1) (Kd.C_below hrb h1) hca hcb) (Nat.le_refl _) k2
  obtain ⟨na, hna⟩ : ∃ na, na = la.length := ⟨_, rfl⟩
  obtain ⟨nb, hnb⟩ : ∃ nb, nb = lb.length := ⟨_, rfl⟩
  obtain ⟨ll, hll⟩ : ∃ ll, ll = l.length := ⟨_, rfl⟩
  rw [← hna, ← hnb] at hcr2
  rw [← hll] at hcr
  rw [← hna, ← hnb, ← hll]
  have HC1 := Lib.hid hc1
  have HCR := Lib.hid hcr
  have HCR2 := Lib.hid hcr2
  have HROW := Lib.hid hrow
  have HL2 := Lib.hid (show l2 = ([⟨1, 0, ⟨1 + (P : Int), X⟩⟩, ⟨2, 1, ⟨1 + (P : Int), Y⟩⟩] : List SL) ∧ Good (1 + (P : Int)) X ∧ Good (1 + (P : Int)) Y from ⟨hl2, hgX, hgY⟩)
  have hlen2 : l2.length = 2 := by rw [hl2]; rfl
  clear hpc hrc hP hc1 hcr hcr2 hrow k1 k2 hr hc hl hla hlb hll hcap hl2 hgX hgY hna hnb hra hrb hca hcb
  go_enter Try.func4, Try.ntmps4
  go_wp2_with fail
  refine (shown11_any _).mono ?_
  rintro e w1 ⟨rfl, hb1⟩
  have HB1 := Lib.hid hb1
  clear hb1
  go_wp2_with fail
  refine (HC1.out _).mono ?_
  rintro e w2 ⟨rfl, hd2⟩
  have HB2 := Lib.hid (HB1.out.trans (hd2.below.mono HB1.out.size))
  clear hd2 HB1
  go_wp2_with fail
  refine (HCR.out _ HB2.out).mono ?_
  rintro e w3 ⟨v3, rfl, hS, hb3⟩
  have HB3 := Lib.hid (HB2.out.trans (hb3.mono HB2.out.size))
  have hb2s := HB2.out.size
  have hR3 := Kd.S_R hS
  obtain ⟨A3, c3, rfl, hle3, hC3⟩ := Kd.R_reads hR3
  have HLA := Lib.hid (linksAt_of_C hC3)
  have HR3 := Lib.hid hR3
  clear hS hC3 hb3 HB2 HCR HC1 hR3
  obtain ⟨tp, htp⟩ : ∃ tp, tp = ls.length := ⟨_, rfl⟩
  rw [← htp] at hle3 hlen HR3 ⊢
  have HTP := Lib.hid htp
  clear htp
  by_cases h0 : tp = 0
  · subst h0
    go_wp2_with fail
    go_ret
    exact ⟨rfl, HB3.out⟩
  · obtain ⟨q, rfl⟩ : ∃ q, tp = q + 1 := ⟨tp - 1, by omega⟩
    have hql : q < ls.length := by rw [← HTP.out]; omega
    obtain ⟨b0, off, rfl, hblt, hzz⟩ := HLA.out (by omega)
    clear hzz
    obtain ⟨b, hbe⟩ := Kd.R_head HR3.out
    injection hbe with hbe1 hbe2
    subst hbe1
    subst hbe2
    have hnz : ((q : Int) + 1 == 0) = false := by rw [beq_eq_false_iff_ne]; omega
    obtain ⟨KL, hK1, hK2, hK3⟩ := links_kept HR3.out
    rw [← HTP.out] at hK2
    have hbb : w2.heap.size ≤ b0 := own_base hK2 b0 rfl
    have HK1 := Lib.hid hK1
    have HK2 := Lib.hid hK2
    have HK3 := Lib.hid hK3
    clear h0 hK1 hK2 hK3 HR3 HLA
    go_wp2_with fail
    refine (HCR2.out _ HB3.out).mono ?_
    rintro e w4 ⟨v4, rfl, hS4, hb4⟩
    have hb34 : Below w3.heap.size w3 w4 := (below_alloc (w := w3) (Below.refl _ _) _).trans (hb4.mono (by simp))
    rw [show (w3.alloc (.cells #[.slice Aa na ca, .slice Ab nb cb] 33)).heap.size = w3.heap.size + 1 by simp] at hS4
    obtain ⟨g4, c4, rfl, hg4, hg4l, hg4z⟩ := Kd.S_form hS4 (by rw [hlen2]; decide)
    have hR4 := Kd.S_R hS4
    obtain ⟨K2, hM1, hM2, hM3⟩ := links_kept hR4
    rw [hlen2] at hM2 ⊢
    rw [HL2.out.1] at hM1
    obtain ⟨Bx, By, cx, cy, rfl⟩ := two_links hM1
    have HM2 := Lib.hid hM2
    have HM3 := Lib.hid hM3
    have HB34 := Lib.hid hb34
    have m2 := hM2.cellAt 2 (by decide)
    have m3 := hM2.cellAt 3 (by decide)
    have m6 := hM2.cellAt 6 (by decide)
    have m7 := hM2.cellAt 7 (by decide)
    have q2 : w4.cell? ⟨g4, 2, none⟩ = some (.int .i64 (1 + (P : Int))) := m2
    have q3 : w4.cell? ⟨g4, 3, none⟩ = some (.slice Bx X.length cx) := m3
    have q6 : w4.cell? ⟨g4, 6, none⟩ = some (.int .i64 (1 + (P : Int))) := m6
    have q7 : w4.cell? ⟨g4, 7, none⟩ = some (.slice By Y.length cy) := m7
    obtain ⟨nx, hnx⟩ : ∃ nx, nx = X.length := ⟨_, rfl⟩
    obtain ⟨ny, hny⟩ : ∃ ny, ny = Y.length := ⟨_, rfl⟩
    rw [← hnx] at q3
    rw [← hny] at q7
    have HNX := Lib.hid hnx
    have HNY := Lib.hid hny
    clear hS4 hb4 hb34 hg4z hR4 hM1 hM2 hM3 m2 m3 m6 m7 HCR2 hnx hny
    go_upto_region 10 with fail
    go_cut [11] from 26 (fun v11 wx => ∃ (g5 c5 : Nat), v11 = .slice (some ⟨g5, 0, none⟩) (q + 3) c5 ∧ Hid (LinksAt wx (some ⟨g5, 0, none⟩) (beside ls (1 + (P : Int)) X Y)) ∧ Hid (LinksAt wx (some ⟨g4, 0, none⟩) l2) ∧ Hid (Below w.heap.size w wx))
    case first =>
      obtain ⟨i0, hi0, hzz⟩ := Option.map_eq_some_iff.1 infoL
      simp only [Prod.mk.injEq] at hzz
      obtain ⟨hz0, hz1, hz2⟩ := hzz
      have s34 := HB34.out.size
      have hones : ∀ u ∈ (#[.int .i64 ((q : Int) + 1 + 1), .int .i64 ((q : Int) + 1), .int .i64 (1 + (P : Int)), .slice Bx nx cx, .int .i64 ((q : Int) + 1 + 2), .int .i64 ((q : Int) + 1), .int .i64 (1 + (P : Int)), .slice By ny cy] : Array Value).toList, u.oneCell' = true := by
        intro u hu
        simp only [List.mem_cons, List.not_mem_nil, or_false] at hu
        rcases hu with rfl | rfl | rfl | rfl | rfl | rfl | rfl | rfl <;> rfl
      have HON := Lib.hid hones
      have hownk : ((w4.alloc (.cells #[.int .i64 ((q : Int) + 1 + 1), .int .i64 ((q : Int) + 1), .int .i64 (1 + (P : Int)), .slice Bx nx cx, .int .i64 ((q : Int) + 1 + 2), .int .i64 ((q : Int) + 1), .int .i64 (1 + (P : Int)), .slice By ny cy] 32)).drew).ownsRow w2.heap.size 32 4 (.slice (some ⟨b0, 0, none⟩) (q + 1) c3) (q + 1) (flatE encK KL) := pw_own_below HK2.out (below_drew (below_alloc (w := w3) HB34.out (.cells #[.int .i64 ((q : Int) + 1 + 1), .int .i64 ((q : Int) + 1), .int .i64 (1 + (P : Int)), .slice Bx nx cx, .int .i64 ((q : Int) + 1 + 2), .int .i64 ((q : Int) + 1), .int .i64 (1 + (P : Int)), .slice By ny cy] 32)))
      have HOWK := Lib.hid hownk
      have hnews : ∀ j u, (#[.int .i64 ((q : Int) + 1 + 1), .int .i64 ((q : Int) + 1), .int .i64 (1 + (P : Int)), .slice Bx nx cx, .int .i64 ((q : Int) + 1 + 2), .int .i64 ((q : Int) + 1), .int .i64 (1 + (P : Int)), .slice By ny cy] : Array Value).toList[j]? = some u → ((w4.alloc (.cells #[.int .i64 ((q : Int) + 1 + 1), .int .i64 ((q : Int) + 1), .int .i64 (1 + (P : Int)), .slice Bx nx cx, .int .i64 ((q : Int) + 1 + 2), .int .i64 ((q : Int) + 1), .int .i64 (1 + (P : Int)), .slice By ny cy] 32)).drew).cell? ((⟨w4.heap.size, 0, none⟩ : Addr).add j) = some u := World.news_of_block (w := (w4.alloc (.cells #[.int .i64 ((q : Int) + 1 + 1), .int .i64 ((q : Int) + 1), .int .i64 (1 + (P : Int)), .slice Bx nx cx, .int .i64 ((q : Int) + 1 + 2), .int .i64 ((q : Int) + 1), .int .i64 (1 + (P : Int)), .slice By ny cy] 32)).drew) (cs := #[.int .i64 ((q : Int) + 1 + 1), .int .i64 ((q : Int) + 1), .int .i64 (1 + (P : Int)), .slice Bx nx cx, .int .i64 ((q : Int) + 1 + 2), .int .i64 ((q : Int) + 1), .int .i64 (1 + (P : Int)), .slice By ny cy]) (t := 32) (fr := (0, 0)) (heap_alloc_new w4 _)
      have HNEWS := Lib.hid hnews
      have s2 : w2.heap.size ≤ w4.heap.size + 1 := by omega
      have hs2 : w2.heap.size ≤ ((w4.alloc (.cells #[.int .i64 ((q : Int) + 1 + 1), .int .i64 ((q : Int) + 1), .int .i64 (1 + (P : Int)), .slice Bx nx cx, .int .i64 ((q : Int) + 1 + 2), .int .i64 ((q : Int) + 1), .int .i64 (1 + (P : Int)), .slice By ny cy] 32)).drew).heap.size := by
        show w2.heap.size ≤ (w4.alloc (.cells #[.int .i64 ((q : Int) + 1 + 1), .int .i64 ((q : Int) + 1), .int .i64 (1 + (P : Int)), .slice Bx nx cx, .int .i64 ((q : Int) + 1 + 2), .int .i64 ((q : Int) + 1), .int .i64 (1 + (P : Int)), .slice By ny cy] 32)).heap.size
        simpa using s2
      have HS2 := Lib.hid hs2
      have hwr1 : IntKind.i64.wrap ((q : Int) + 1 + 1) = (q : Int) + 1 + 1 := by rw [IntKind.wrap_i64] <;> omega
      have hwr2 : IntKind.i64.wrap ((q : Int) + 1 + 2) = (q : Int) + 1 + 2 := by rw [IntKind.wrap_i64] <;> omega
      clear hones hownk hnews hs2
      go_region_law (refine step_append_own ((w4.alloc (.cells #[.int .i64 ((q : Int) + 1 + 1), .int .i64 ((q : Int) + 1), .int .i64 (1 + (P : Int)), .slice Bx nx cx, .int .i64 ((q : Int) + 1 + 2), .int .i64 ((q : Int) + 1), .int .i64 (1 + (P : Int)), .slice By ny cy] 32)).drew) rfl _ _ 30 rfl w2.heap.size 32 i0 _ 4 48 Try.underlying30 hi0 hz0 hz1 hz2 rfl (by decide) (.slice (some ⟨b0, 0, none⟩) (q + 1) c3) (q + 1) (flatE encK KL) rfl HOWK.out ⟨w4.heap.size, 0, none⟩ 2 2 (#[.int .i64 ((q : Int) + 1 + 1), .int .i64 ((q : Int) + 1), .int .i64 (1 + (P : Int)), .slice Bx nx cx, .int .i64 ((q : Int) + 1 + 2), .int .i64 ((q : Int) + 1), .int .i64 (1 + (P : Int)), .slice By ny cy] : Array Value).toList rfl rfl HNEWS.out HON.out (by unfold maxLen; omega) (by omega) HS2.out ?_; intro v5 w5 hown5 hg5 _)
      all_goals rw [HNX.out, HNY.out] at hown5 hg5
      all_goals (go_wp2_with fail; go_meet)
      all_goals exact beside_end hb2s HB3.out hbb hblt hg4 HK1.out HTP.out HK3.out HB34.out HM2.out HM3.out HL2.out.1 hown5 hg5
    case rest =>
      obtain ⟨g5, c5, rfl, HLC, HLB, HBc⟩ := hcut
      obtain ⟨ZZ, hZZ⟩ : ∃ ZZ : Nat → List SC, ZZ = fun j => if j = 0 then X else Y := ⟨_, rfl⟩
      have htp := HTP.out
      have hpos : 0 < ls.length := by omega
      have hbl := beside_len ls (1 + (P : Int)) X Y
      have hsz := beside_sized HROW.out (by omega) HL2.out.2.1 HL2.out.2.2
      have hrd := fun (i : Nat) (hi : i < 1 + P) => beside_read HROW.out hpos X Y (i : Int) ⟨by omega, by omega⟩
      have hids := beside_ids HROW.out hpos X Y
      have hrd0 : ∀ (i : Nat) (wx : World), i < 1 + P → Below wc.heap.size wc wx → Calls Try.prog 13 #[.slice (some ⟨g5, 0, none⟩) (q + 3) c5, .int .i64 ((q : Int) + 1), .int .i64 (i : Int)] wx fun e w' => e = .returned (.tuple #[.string (throughL ls.reverse (i : Int)), .int .i64 0]) ∧ Below wx.heap.size wx w' := by
        intro i wx hi hx
        have := read_any (some ⟨g5, 0, none⟩) c5 _ ((ls.length : Nat) : Int) (i : Int) wx (by omega) (HLC.out.below hx) hsz
        rw [(hrd i hi).1, hbl, ← HTP.out] at this
        exact this
      have hrdj : ∀ (i : Nat) (j : Nat) (wx : World), i < 1 + P → j < 2 → Below wc.heap.size wc wx → Calls Try.prog 13 #[.slice (some ⟨g5, 0, none⟩) (q + 3) c5, .int .i64 ((q : Int) + 1 + ((j : Int) + 1)), .int .i64 (i : Int)] wx fun e w' => e = .returned (.tuple #[.string (if (getB (ZZ j) (i : Int)).2 = true then (getB (ZZ j) (i : Int)).1 else throughL ls.reverse (i : Int)), .int .i64 0]) ∧ Below wx.heap.size wx w' := by
        intro i j wx hi hj hx
        have hj2 : j = 0 ∨ j = 1 := by omega
        rcases hj2 with rfl | rfl
        · have := read_any (some ⟨g5, 0, none⟩) c5 _ ((ls.length + 1 : Nat) : Int) (i : Int) wx (by omega) (HLC.out.below hx) hsz
          rw [(hrd i hi).2.1, hbl, ← HTP.out] at this
          rw [hZZ]
          exact this
        · have := read_any (some ⟨g5, 0, none⟩) c5 _ ((ls.length + 2 : Nat) : Int) (i : Int) wx (by omega) (HLC.out.below hx) hsz
          rw [(hrd i hi).2.2, hbl, ← HTP.out] at this
          rw [hZZ]
          exact this
      have hcell : ∀ (j : Nat) (wx : World), j < 2 → Below wc.heap.size wc wx → ∃ (B : Option Addr) (cz : Nat), wx.cell? ⟨g4, j * 4 + 2, none⟩ = some (.int .i64 (1 + (P : Int))) ∧ wx.cell? ⟨g4, j * 4 + 3, none⟩ = some (.slice B (ZZ j).length cz) ∧ (ZZ j).length ≤ cz ∧ Kd.C kC wx B (ZZ j).length (ZZ j) := by
        intro j wx hj hx
        obtain ⟨b', off', he, _, hc⟩ := (HLB.out.below hx) (by rw [hlen2]; decide)
        injection he with he
        injection he with he1 he2
        subst he1
        subst he2
        obtain ⟨B, cz, _, _, d2, d3, d4, d5⟩ := hc j (by omega)
        have hz : l2[j].f2 = ⟨1 + (P : Int), ZZ j⟩ := by
          have hj2 : j = 0 ∨ j = 1 := by omega
          rw [hZZ]
          have := HL2.out.1
          subst this
          rcases hj2 with rfl | rfl <;> rfl
        rw [hz] at d2 d3 d4 d5
        rw [Nat.zero_add] at d2 d3
        exact ⟨B, cz, d2, d3, d4, d5⟩
      have hzl : ∀ j, (ZZ j).length ≤ 64 := by
        intro j
        rw [hZZ]
        show (if j = 0 then X else Y).length ≤ 64
        split
        · exact HL2.out.2.1.length (by omega)
        · exact HL2.out.2.2.length (by omega)
      have HZL := Lib.hid hzl
      clear hzl
      obtain ⟨ids, hidd⟩ : ∃ ids, ids = ls.reverse.map (·.f0) := ⟨_, rfl⟩
      have hidl : ids.length = q + 1 := by rw [hidd, List.length_map, List.length_reverse, ← HTP.out]
      rw [← hidd] at hids
      have hp0 : ∀ (wx : World), Below wc.heap.size wc wx → Calls Try.prog 12 #[.slice (some ⟨g5, 0, none⟩) (q + 3) c5, .int .i64 ((q : Int) + 1)] wx fun e w' => ∃ v : Value, e = .returned (.tuple #[v, .int .i64 0]) ∧ w'.ownsRow wx.heap.size 3 1 v (q + 1) (nums .i64 ids) ∧ Below wx.heap.size wx w' := by
        intro wx hx
        have := ids_any (some ⟨g5, 0, none⟩) c5 _ ((ls.length : Nat) : Int) wx (by omega) (HLC.out.below hx) hsz
        rw [hids.1, hbl, ← HTP.out] at this
        rw [← hidl]
        exact this
      have hp2 : ∀ (wx : World), Below wc.heap.size wc wx → Calls Try.prog 12 #[.slice (some ⟨g5, 0, none⟩) (q + 3) c5, .int .i64 ((q : Int) + 1 + 2)] wx fun e w' => ∃ v : Value, e = .returned (.tuple #[v, .int .i64 0]) ∧ w'.ownsRow wx.heap.size 3 1 v (q + 1 + 1) (nums .i64 (((q : Int) + 1 + 2) :: ids)) ∧ Below wx.heap.size wx w' := by
        intro wx hx
        have := ids_any (some ⟨g5, 0, none⟩) c5 _ ((ls.length + 2 : Nat) : Int) wx (by omega) (HLC.out.below hx) hsz
        rw [hids.2, hbl, ← HTP.out] at this
        rw [← hidl]
        exact this
      obtain ⟨K3, k3⟩ := same_ok ids (by omega)
      replace k3 := k3 K3 (Nat.le_refl _)
      dsimp only at k3
      have HRD0 := Lib.hid hrd0
      have HRDJ := Lib.hid hrdj
      have HCELL := Lib.hid hcell
      have HP0 := Lib.hid hp0
      have HP2 := Lib.hid hp2
      have HK3' := Lib.hid k3
      clear hrd0 hrdj hcell hp0 hp2 k3 hids hidd hrd hsz hbl hpos htp hZZ HLC HLB HL2 HM2 HM3 HK1 HK2 HK3 HTP HB34 HNX HNY HROW hql hlen2
      go_wp2_with fail
      go_loopw [14] (fun v14 wr => ∃ (i : Nat), i ≤ 1 + P ∧ v14 = .int .i64 (i : Int) ∧ Hid (Below wc.heap.size wc wr)) (fun v14 _ => 1 + P - (intOf v14).toNat)
      case atStart => exact ⟨0, by omega, rfl, Lib.hid (Below.refl _ _)⟩
      case round =>
        obtain ⟨i, hi, rfl, hbr⟩ := hrel
        by_cases hlt : i < 1 + P
        · have h1 := HRD0.out i
          have hJ := fun j => HRDJ.out i j
          generalize throughL ls.reverse (i : Int) = va at h1 hJ
          have H1 := Lib.hid h1
          have HJ := Lib.hid hJ
          have hb2 : (va.toList == va.toList) = true := beq_self_eq_true _
          clear h1 hJ HRD0 HRDJ HP0 HP2 HK3'
          go_wp2_with fail
          refine (H1.out _ hlt hbr.out).mono ?_
          rintro e wx ⟨rfl, hbx⟩
          have HBX := Lib.hid (hbr.out.trans (hbx.mono hbr.out.size))
          clear hbx hbr H1
          go_wp2_with fail
          go_loopw [17] (fun v17 wr => ∃ (j : Nat), j ≤ 2 ∧ v17 = .int .i64 ((j : Int) + 1) ∧ Hid (Below wc.heap.size wc wr)) (fun v17 _ => 3 - (intOf v17).toNat)
          case atStart => exact ⟨0, by omega, rfl, HBX⟩
          case round =>
            clear HBX
            obtain ⟨j, hj, rfl, hbr⟩ := hrel
            by_cases hlj : j < 2
            · have hrj := fun wy => HJ.out j wy hlt hlj
              have hgj := fun (wy : World) (hx : Below wc.heap.size wc wy) => HCELL.out j wy hlj hx
              obtain ⟨sv, sb, hsb⟩ : ∃ sv sb, getB (ZZ j) (i : Int) = (sv, sb) := ⟨_, _, rfl⟩
              rw [hsb] at hrj
              have HSB := Lib.hid hsb
              have HGJ := Lib.hid hgj
              have hwj : IntKind.i64.wrap (j : Int) = (j : Int) := by rw [IntKind.wrap_i64] <;> omega
              have hws : (sv.toList == sv.toList) = true := beq_self_eq_true _
              cases sb with
              | true =>
                rw [if_pos rfl] at hrj
                have HRJ := Lib.hid hrj
                clear hgj hrj HJ HCELL hsb
                go_wp2_with fail
                refine (HRJ.out _ hbr.out).mono ?_
                rintro e wy ⟨rfl, hby⟩
                have HBY := Lib.hid (hbr.out.trans (hby.mono hbr.out.size))
                clear hby hbr HRJ
                obtain ⟨B, cz, d2, d3, hlz, hCz⟩ := HGJ.out wy HBY.out
                have hget := get_any (1 + (P : Int)) B cz (ZZ j) (i : Int) wy (by have := HZL.out j; omega) hCz hlz
                rw [HSB.out] at hget
                have HGET := Lib.hid hget
                clear hCz hget
                go_wp2_with fail
                refine HGET.out.mono ?_
                rintro e wz ⟨rfl, hbz⟩
                have HBZ := Lib.hid (HBY.out.trans (hbz.mono HBY.out.size))
                clear hbz HBY HGET d2 d3
                go_wp2_with fail
                go_roundw
                case rel => exact ⟨j + 1, by omega, by go_num, HBZ⟩
                case measure => simp [intOf]; omega
              | false =>
                rw [if_neg (by simp)] at hrj
                have HRJ := Lib.hid hrj
                clear hgj hrj HJ HCELL hsb
                go_wp2_with fail
                refine (HRJ.out _ hbr.out).mono ?_
                rintro e wy ⟨rfl, hby⟩
                have HBY := Lib.hid (hbr.out.trans (hby.mono hbr.out.size))
                clear hby hbr HRJ
                obtain ⟨B, cz, d2, d3, hlz, hCz⟩ := HGJ.out wy HBY.out
                have hget := get_any (1 + (P : Int)) B cz (ZZ j) (i : Int) wy (by have := HZL.out j; omega) hCz hlz
                rw [HSB.out] at hget
                have HGET := Lib.hid hget
                clear hCz hget
                go_wp2_with fail
                refine HGET.out.mono ?_
                rintro e wz ⟨rfl, hbz⟩
                have HBZ := Lib.hid (HBY.out.trans (hbz.mono HBY.out.size))
                clear hbz HBY HGET d2 d3
                go_wp2_with fail
                go_roundw
                case rel => exact ⟨j + 1, by omega, by go_num, HBZ⟩
                case measure => simp [intOf]; omega
            · obtain rfl : j = 2 := by omega
              clear HJ HCELL hlj hj
              go_wp2_with fail
              go_roundw
              case rel => exact ⟨i + 1, by omega, by go_num, hbr⟩
              case measure => simp [intOf]; omega
        · have hii : (i : Int) = 1 + (P : Int) := by omega
          rw [hii]
          clear HRD0 HRDJ HCELL hlt hi hii
          go_wp2_with fail
          refine (HP2.out _ hbr.out).mono ?_
          rintro e wx ⟨v, rfl, hox, hbx⟩
          obtain ⟨g6, c6, rfl, hg6, hle6⟩ := own_succT hox
          have HOX := Lib.hid hox
          have HBX := Lib.hid (hbr.out.trans (hbx.mono hbr.out.size))
          clear hbx hbr HP2 hox
          go_wp2_with fail
          refine (HP0.out _ HBX.out).mono ?_
          rintro e wy ⟨v, rfl, hoy, hby⟩
          obtain ⟨g7, c7, rfl, hg7, hle7⟩ := own_succT hoy
          have HOY := Lib.hid hoy
          have HOX2 := Lib.hid (pw_own_below HOX.out hby)
          have HBY := Lib.hid (HBX.out.trans (hby.mono HBX.out.size))
          clear hby HBX HP0 hoy HOX
          go_wp2_with fail
          have hC7 : Kd.C (Kd.int .i64) wy (some ⟨g7, 0, none⟩) ids.length ids := (Kd.R_reads' (Kd.R_of_own (ok := fun _ => True) (xs := ids) (enc := fun x => Value.int .i64 x) (h1 := fun _ => rfl) (by rw [hidl]; exact HOY.out) (fun _ _ => trivial))).2.2
          have hC6 : Kd.C (Kd.int .i64) wy (some ⟨g6, 1, none⟩) ids.length ids := by
            have hh := (Kd.R_reads' (Kd.R_of_own (ok := fun _ => True) (xs := ((q : Int) + 1 + 2) :: ids) (enc := fun x => Value.int .i64 x) (h1 := fun _ => rfl) (by rw [List.length_cons, hidl]; exact HOX2.out) (fun _ _ => trivial))).2.2
            have hd := Kd.C_drop (m := 1) (c := c6) hh (by simp) (by rw [List.length_cons, hidl]; exact hle6)
            rw [if_neg (by omega)] at hd
            exact hd
          have hsame := rootcellarlaw11_sameInts.calls K3 (some ⟨g6, 1, none⟩) (c6 - 1) ids (some ⟨g7, 0, none⟩) c7 ids true wy hC6 (by omega) hC7 (by omega) HK3'.out
          rw [hidl] at hsame
          refine hsame.mono ?_
          rintro e wz ⟨rfl, hdz⟩
          have HBZ := Lib.hid (HBY.out.trans (hdz.below.mono HBY.out.size))
          clear hdz hsame hC6 hC7 HBY HOX2 HOY
          go_wp2_with fail
          go_ret
          exact ⟨rfl, HBc.out.trans (HBZ.out.mono HBc.out.size)⟩
end Go.Proofs.Ytbeloaccgmgocaa.Pr
