/- slices.IndexFunc and slices.ContainsFunc over links, by chain.path's closure: is a link of that number there? Condition: the links are not more than a million. -/
import Derived.Test.YtbeloaccgmgocaaHChFind
namespace Go.Proofs.Ytbeloaccgmgocaa.Pr
open Go.RowKit Go.Proofs.YtbeloaccgmgocaaW.PrintWords Go.Proofs.YtbeloaccgmgocaaW.PrintLast Go.Proofs.Ytbeloaccgmgocaa
set_option linter.unusedVariables false
set_option maxRecDepth 100000 in
theorem path1_any (x0 x1 x2 a : Int) (v : Value) (c : Nat) (w : World) (hc : w.cell? ⟨c, 0, none⟩ = some (.int .i64 a)) :
    Calls Try.prog 46 #[.agg #[.int .i64 x0, .int .i64 x1, .int .i64 x2, v], .pointer (some ⟨c, 0, none⟩)] w fun e w' => e = .returned (.bool (x0 == a)) ∧ Below w.heap.size w w' := by
  have hlt := block_lt_of_cell hc
  go_enter Try.func46, Try.ntmps46
  go_wp2
  all_goals (go_ret; exact ⟨ret_bool (by first | rfl | simp_all), (Below.refl _ _).alloc (Nat.le_refl _) _⟩)
set_option maxRecDepth 100000 in
set_option maxHeartbeats 1600000 in
theorem indexP_any (A : Option Addr) (cap : Nat) (l : List SL) (a : Int) (c : Nat) (w : World) (hl : l.length ≤ 1000000) (hr : LinksAt w A l) (hc : w.cell? ⟨c, 0, none⟩ = some (.int .i64 a)) :
    Calls Try.prog 62 #[.slice A l.length cap, .func (.func 46) #[] #[.pointer (some ⟨c, 0, none⟩)]] w fun e w' => e = .returned (.int .i64 (idxL l a)) ∧ Below w.heap.size w w' := by
  obtain ⟨n, hn⟩ : ∃ n, l.length = n := ⟨_, rfl⟩
  have HR := Lib.hid hr
  have HN := Lib.hid hn
  have HC := Lib.hid hc
  have hclt := block_lt_of_cell hc
  rw [hn] at hl
  rw [hn]
  clear hr hn hc
  go_enter Try.func62, Try.ntmps62
  go_wp2_with fail
  go_loopw [8] (fun vj wr => ∃ (j : Nat), j ≤ n ∧ vj = .int .i64 j ∧ Hid (∀ i (h : i < l.length), i < j → (l[i].f0 == a) = false) ∧ Hid (Below w.heap.size w wr)) (fun vj _ => n - (intOf vj).toNat)
  case atStart => exact ⟨0, by omega, rfl, Lib.hid (fun i _ h => by omega), Lib.hid (Below.refl _ _)⟩
  case round =>
    obtain ⟨j, hjn, rfl, hp, hb⟩ := hrel
    by_cases hlt : j < n
    · obtain ⟨b, off, rfl, hblt, hcell⟩ := HR.out (by rw [HN.out]; omega)
      have hjl : j < l.length := by rw [HN.out]; exact hlt
      obtain ⟨B, cap2, hc0, hc1, hc2, hc3, _, _⟩ := hcell j hjl
      obtain ⟨x, hx⟩ : ∃ x, l[j]'hjl = x := ⟨_, rfl⟩
      rw [hx] at hc0 hc1 hc2 hc3
      have d0 := (hb.out.cell (p := ⟨b, off + j * 4, none⟩) hblt).trans hc0
      have d1 := (hb.out.cell (p := ⟨b, off + j * 4 + 1, none⟩) hblt).trans hc1
      have d2 := (hb.out.cell (p := ⟨b, off + j * 4 + 2, none⟩) hblt).trans hc2
      have d3 := (hb.out.cell (p := ⟨b, off + j * 4 + 3, none⟩) hblt).trans hc3
      have HX := Lib.hid hx
      obtain ⟨v3, hv3⟩ : ∃ v3, v3 = Value.slice B x.f2.f1.length cap2 := ⟨_, rfl⟩
      rw [← hv3] at d3
      have hcl := path1_any x.f0 x.f1 x.f2.f0 a v3 c wr ((hb.out.cell (p := ⟨c, 0, none⟩) hclt).trans HC.out)
      obtain ⟨y0, hy0⟩ : ∃ y, y = x.f0 := ⟨_, rfl⟩
      obtain ⟨y1, hy1⟩ : ∃ y, y = x.f1 := ⟨_, rfl⟩
      obtain ⟨y2, hy2⟩ : ∃ y, y = x.f2.f0 := ⟨_, rfl⟩
      rw [← hy0] at hcl d0
      rw [← hy1] at hcl d1
      rw [← hy2] at hcl d2
      obtain ⟨q, hq⟩ : ∃ q, q = (y0 == a) := ⟨_, rfl⟩
      rw [← hq] at hcl
      have HCL := Lib.hid hcl
      have HQ := Lib.hid hq
      have HY := Lib.hid hy0
      clear hcell hc0 hc1 hc2 hc3 hx hcl hq hv3 hy0 hy1 hy2
      go_wp2_with fail
      refine HCL.out.mono ?_
      rintro e w2 ⟨rfl, hb2⟩
      have HB2 := Lib.hid (hb.out.trans (hb2.mono hb.out.size))
      clear hb2
      go_wp2
      all_goals first
        | (go_ret
           refine ⟨?_, HB2.out⟩
           have hq1 : (y0 == a) = true := by rw [← HQ.out]; assumption
           unfold idxL
           have : l.findIdx? (fun x => x.f0 == a) = some j := by
             rw [List.findIdx?_eq_some_iff_getElem]
             refine ⟨hjl, by rw [HX.out, ← HY.out]; exact hq1, fun i hi => by rw [hp.out i (by omega) hi]; decide⟩
           rw [this]; rfl)
        | (have hq0 : (y0 == a) = false := by rw [← HQ.out]; assumption
           go_roundw
           case rel =>
             refine ⟨j + 1, by omega, by go_num, Lib.hid (fun i h hi => ?_), HB2⟩
             by_cases e : i = j
             · subst e; rw [HX.out, ← HY.out]; exact hq0
             · exact hp.out i h (by omega)
           case measure => simp [intOf]; omega)
    · go_wp2
      go_ret
      refine ⟨?_, hb.out⟩
      unfold idxL
      rw [idxL_none l a (fun x hx => by
        obtain ⟨i, hi, rfl⟩ := List.getElem_of_mem hx
        exact hp.out i hi (by rw [← HN.out] at hlt; omega))]
      rfl
def hasL (l : List SL) (a : Int) : Bool := l.any (fun x => x.f0 == a)
theorem idxL_has (l : List SL) (a : Int) : decide (idxL l a ≥ 0) = hasL l a := by
  unfold idxL hasL
  cases h : l.findIdx? (fun x => x.f0 == a) with
  | none =>
    rw [List.findIdx?_eq_none_iff] at h
    have : l.any (fun x => x.f0 == a) = false := by
      rw [List.any_eq_false]; intro x hx; rw [h x hx]; decide
    rw [this]; rfl
  | some j =>
    rw [List.findIdx?_eq_some_iff_getElem] at h
    obtain ⟨hj, hp, _⟩ := h
    have : l.any (fun x => x.f0 == a) = true := List.any_eq_true.2 ⟨l[j], List.getElem_mem hj, hp⟩
    rw [this]
    simp
set_option maxRecDepth 100000 in
theorem contains_any (A : Option Addr) (cap : Nat) (l : List SL) (a : Int) (c : Nat) (w : World) (hl : l.length ≤ 1000000) (hr : LinksAt w A l) (hc : w.cell? ⟨c, 0, none⟩ = some (.int .i64 a)) :
    Calls Try.prog 45 #[.slice A l.length cap, .func (.func 46) #[] #[.pointer (some ⟨c, 0, none⟩)]] w fun e w' => e = .returned (.bool (hasL l a)) ∧ Below w.heap.size w w' := by
  have hcall := indexP_any A cap l a c w hl hr hc
  rw [← idxL_has]
  generalize idxL l a = v at hcall ⊢
  have HC := Lib.hid hcall
  clear hcall hr hc
  go_enter Try.func45, Try.ntmps45
  go_wp2_with fail
  refine HC.out.mono ?_
  rintro e w1 ⟨rfl, hb⟩
  go_wp2
  go_ret
  exact ⟨rfl, hb⟩
end Go.Proofs.Ytbeloaccgmgocaa.Pr
