/- (tree.Tree).place: binary search over the nodes' numbers. Condition: the nodes are not more than a million. -/
import Derived.Test.YtfdhehjfbcddgaaDoorTDepth
import Derived.Lib.Hide
import Derived.Deep.LoopGhost
namespace Go.Proofs.YtfdhehjfbcddgaaDoor.Pr
open Go.RowKit Go.Proofs.YtfdhehjfbcddgaaDoorW.PrintWords Go.Proofs.YtfdhehjfbcddgaaDoorW.PrintLast Go.Proofs.YtfdhehjfbcddgaaDoor
set_option linter.unusedVariables false
/-- the search's loop: so many rounds at most, from i on, below j -/
def bsl (l : List Int) (t : Int) : Nat → Nat → Nat → Nat
  | 0, i, _ => i
  | d + 1, i, j => if i < j then (if l.getD ((i + j) / 2) 0 < t then bsl l t d ((i + j) / 2 + 1) j else bsl l t d i ((i + j) / 2)) else i
theorem bsl_end (l : List Int) (t : Int) (d i j : Nat) (h : ¬ i < j) : bsl l t d i j = i := by
  cases d with
  | zero => rfl
  | succ d => rw [bsl, if_neg h]
theorem bsl_up (l : List Int) (t : Int) (d i j : Nat) (h : i < j) (hl : l.getD ((i + j) / 2) 0 < t) : bsl l t (d + 1) i j = bsl l t d ((i + j) / 2 + 1) j := by rw [bsl, if_pos h, if_pos hl]
theorem bsl_down (l : List Int) (t : Int) (d i j : Nat) (h : i < j) (hl : ¬ l.getD ((i + j) / 2) 0 < t) : bsl l t (d + 1) i j = bsl l t d i ((i + j) / 2) := by rw [bsl, if_pos h, if_neg hl]
theorem bsl_le (l : List Int) (t : Int) : ∀ d i j, i ≤ j → bsl l t d i j ≤ j := by
  intro d
  induction d with
  | zero => intro i j h; exact h
  | succ d ih =>
    intro i j h
    rw [bsl]
    split
    · split
      · exact ih _ _ (by omega)
      · exact Nat.le_trans (ih _ _ (by omega)) (by omega)
    · exact h
def ats (l : List Nd) : List Int := l.map fun x => x.id
theorem ats_getD (l : List Nd) (i : Nat) (h : i < l.length) : (ats l).getD i 0 = l[i].id := by simp [ats, List.getD_eq_getElem?_getD, h]
def plc (l : List Nd) (t : Int) : Nat := bsl (ats l) t l.length 0 l.length
def hit (l : List Nd) (t : Int) : Bool := decide (plc l t < l.length) && decide ((ats l).getD (plc l t) 0 = t)
def cmpI (a b : Int) : Int := if a < b then -1 else if b < a then 1 else 0
set_option maxRecDepth 100000 in
theorem cmp_any (a b : Int) (w : World) : Calls Tryd.prog 88 #[.int .i64 a, .int .i64 b] w fun e w' => e = .returned (.int .i64 (cmpI a b)) ∧ w = w' := by
  by_cases h1 : a < b
  · have hc : cmpI a b = -1 := by unfold cmpI; rw [if_pos h1]
    rw [hc]
    go_enter Tryd.func88, Tryd.ntmps88
    go_wp2
    go_ret
    exact ⟨rfl, rfl⟩
  · by_cases h2 : b < a
    · have hc : cmpI a b = 1 := by unfold cmpI; rw [if_neg h1, if_pos h2]
      rw [hc]
      go_enter Tryd.func88, Tryd.ntmps88
      go_wp2
      go_ret
      exact ⟨rfl, rfl⟩
    · have hc : cmpI a b = 0 := by unfold cmpI; rw [if_neg h1, if_neg h2]
      rw [hc]
      go_enter Tryd.func88, Tryd.ntmps88
      go_wp2
      go_ret
      exact ⟨rfl, rfl⟩
set_option maxRecDepth 100000 in
theorem clo_any (x : Nd) (b : Int) (w : World) : Calls Tryd.prog 87 #[valN x, .int .i64 b] w fun e w' => e = .returned (.int .i64 (cmpI x.id b)) ∧ Below w.heap.size w w' := by
  unfold valN
  go_enter Tryd.func87, Tryd.ntmps87
  go_wp2_with fail
  refine (cmp_any _ b _).mono ?_
  rintro e w' ⟨rfl, rfl⟩
  go_wp2
  go_ret
  exact ⟨rfl, (Below.refl _ _).alloc (Nat.le_refl _) _⟩
theorem half_wrap (i j : Nat) (h : i + j ≤ 9223372036854775807) : IntKind.i64.wrap (((i : Int) + (j : Int)) / 2) = (((i + j) / 2 : Nat) : Int) := by rw [IntKind.wrap_i64]; omega
set_option maxRecDepth 100000 in
set_option maxHeartbeats 1600000 in
theorem bsf_any (A : Option Addr) (cap : Nat) (l : List Nd) (t : Int) (w : World) (hl : l.length ≤ 140737488355328) (hr : NodesAt w A l) :
    Calls Tryd.prog 86 #[.slice A l.length cap, .int .i64 t, .func (.func 87) #[] #[]] w fun e w' => e = .returned (.tuple #[.int .i64 (plc l t : Int), .bool (hit l t)]) ∧ Below w.heap.size w w' := by
  obtain ⟨n, hn⟩ : ∃ n, l.length = n := ⟨_, rfl⟩
  have HR := Lib.hid hr
  have HN := Lib.hid hn
  rw [hn] at hl
  rw [hn]
  clear hr hn
  go_enter Tryd.func86, Tryd.ntmps86
  go_wp2_with fail
  go_loopw [9, 10] (fun vi vj wr => ∃ (d i j : Nat), i ≤ j ∧ j ≤ n ∧ j ≤ i + d ∧ vi = .int .i64 i ∧ vj = .int .i64 j ∧ Hid (plc l t = bsl (ats l) t d i j) ∧ Below w.heap.size w wr) (fun vi vj _ => (intOf vj).toNat - (intOf vi).toNat)
  case atStart => exact ⟨n, 0, n, by omega, by omega, by omega, rfl, rfl, Lib.hid (by unfold plc; rw [HN.out]), Below.refl _ _⟩
  case round =>
    obtain ⟨d, i, j, hij, hjn, hd, rfl, rfl, hp, hb⟩ := hrel
    have HB := Lib.hid hb
    clear hb
    by_cases hlt : i < j
    · obtain ⟨d, rfl⟩ : ∃ m, d = m + 1 := ⟨d - 1, by omega⟩
      obtain ⟨h, hh⟩ : ∃ h, h = (i + j) / 2 := ⟨_, rfl⟩
      have hhn : h < n := by omega
      obtain ⟨b, off, rfl, ⟨cs, fr, hob⟩, hcell⟩ := HR.out (by rw [HN.out]; omega)
      have hblt := obj_lt hob
      obtain ⟨hc0, hc1, hc2, hc3, hc4, hc5⟩ := nodes_get hcell h (by rw [HN.out]; exact hhn)
      obtain ⟨x, y1, y2, y3, y4, y5, hx⟩ : ∃ x y1 y2 y3 y4 y5, l[h]'(by rw [HN.out]; exact hhn) = (⟨x, y1, y2, y3, y4, y5⟩ : Nd) := ⟨_, _, _, _, _, _, rfl⟩
      rw [hx] at hc0 hc1 hc2 hc3 hc4 hc5
      have hclo := fun w1 => clo_any ⟨x, y1, y2, y3, y4, y5⟩ t w1
      unfold valN at hclo
      dsimp only at hclo
      have HCLO := Lib.hid hclo
      have d0 := (HB.out.cell (p := ⟨b, off + h * 6, none⟩) hblt).trans hc0
      have d1 := (HB.out.cell (p := ⟨b, off + h * 6 + 1, none⟩) hblt).trans hc1
      have d2 := (HB.out.cell (p := ⟨b, off + h * 6 + 2, none⟩) hblt).trans hc2
      have d3 := (HB.out.cell (p := ⟨b, off + h * 6 + 3, none⟩) hblt).trans hc3
      have d4 := (HB.out.cell (p := ⟨b, off + h * 6 + 4, none⟩) hblt).trans hc4
      have d5 := (HB.out.cell (p := ⟨b, off + h * 6 + 5, none⟩) hblt).trans hc5
      dsimp only at d0 d1 d2 d3 d4 d5
      have hg : (ats l).getD h 0 = x := by rw [ats_getD l h (by rw [HN.out]; exact hhn), hx]
      have HG := Lib.hid hg
      have HH := Lib.hid hh
      have hw := half_wrap i j (by omega)
      rw [← HH.out] at hw
      clear hcell hc0 hc1 hc2 hc3 hc4 hc5 hx hg hh hob hclo
      go_wp2_with fail
      refine (HCLO.out _).mono ?_
      rintro e w2 ⟨rfl, hb2⟩
      have HB2 := Lib.hid (HB.out.trans (hb2.mono HB.out.size))
      clear hb2 d0 d1 d2 d3 d4 d5 HCLO
      by_cases hx : x < t
      · have hc : cmpI x t = -1 := by unfold cmpI; rw [if_pos hx]
        rw [hc]
        clear hc
        have HX := Lib.hid hx
        clear hx
        go_wp2
        go_roundw
        case rel => exact ⟨d, h + 1, j, by have := HH.out; omega, hjn, by have := HH.out; omega, by go_num, rfl, Lib.hid (by rw [hp.out, bsl_up _ _ _ _ _ hlt (by rw [← HH.out, HG.out]; exact HX.out), ← HH.out]), HB2.out⟩
        case measure => have := HH.out; simp [intOf]; omega
      · have hc : decide (cmpI x t < 0) = false := by unfold cmpI; rw [if_neg hx]; split <;> rfl
        have HX := Lib.hid hx
        obtain ⟨c, hcc⟩ : ∃ c, cmpI x t = c := ⟨_, rfl⟩
        rw [hcc] at hc ⊢
        clear hx hcc
        go_wp2
        go_roundw
        case rel => exact ⟨d, i, h, by have := HH.out; omega, by omega, by have := HH.out; omega, rfl, rfl, Lib.hid (by rw [hp.out, bsl_down _ _ _ _ _ hlt (by rw [← HH.out, HG.out]; have := HX.out; omega), ← HH.out]), HB2.out⟩
        case measure => have := HH.out; simp [intOf]; omega
    · have hi : plc l t = i := by rw [hp.out, bsl_end _ _ _ _ _ hlt]
      have HI := Lib.hid hi
      clear hi hp
      by_cases hin : i < n
      · obtain ⟨b, off, rfl, ⟨cs, fr, hob⟩, hcell⟩ := HR.out (by rw [HN.out]; omega)
        have hblt := obj_lt hob
        obtain ⟨hc0, hc1, hc2, hc3, hc4, hc5⟩ := nodes_get hcell i (by rw [HN.out]; exact hin)
        obtain ⟨x, y1, y2, y3, y4, y5, hx⟩ : ∃ x y1 y2 y3 y4 y5, l[i]'(by rw [HN.out]; exact hin) = (⟨x, y1, y2, y3, y4, y5⟩ : Nd) := ⟨_, _, _, _, _, _, rfl⟩
        rw [hx] at hc0 hc1 hc2 hc3 hc4 hc5
        have hclo := fun w1 => clo_any ⟨x, y1, y2, y3, y4, y5⟩ t w1
        unfold valN at hclo
        dsimp only at hclo
        have HCLO := Lib.hid hclo
        have d0 := (HB.out.cell (p := ⟨b, off + i * 6, none⟩) hblt).trans hc0
        have d1 := (HB.out.cell (p := ⟨b, off + i * 6 + 1, none⟩) hblt).trans hc1
        have d2 := (HB.out.cell (p := ⟨b, off + i * 6 + 2, none⟩) hblt).trans hc2
        have d3 := (HB.out.cell (p := ⟨b, off + i * 6 + 3, none⟩) hblt).trans hc3
        have d4 := (HB.out.cell (p := ⟨b, off + i * 6 + 4, none⟩) hblt).trans hc4
        have d5 := (HB.out.cell (p := ⟨b, off + i * 6 + 5, none⟩) hblt).trans hc5
        dsimp only at d0 d1 d2 d3 d4 d5
        have hg : (ats l).getD i 0 = x := by rw [ats_getD l i (by rw [HN.out]; exact hin), hx]
        have hh : hit l t = decide (x = t) := by unfold hit; rw [HI.out, HN.out, hg]; simp [hin]
        have HH := Lib.hid hh
        clear hcell hc0 hc1 hc2 hc3 hc4 hc5 hx hg hh hob hclo
        go_wp2_with fail
        refine (HCLO.out _).mono ?_
        rintro e w2 ⟨rfl, hb2⟩
        have HB2 := Lib.hid (HB.out.trans (hb2.mono HB.out.size))
        clear hb2 d0 d1 d2 d3 d4 d5 HCLO
        have hc : (cmpI x t == 0) = decide (x = t) := by
          unfold cmpI
          rcases Int.lt_trichotomy x t with h | h | h
          · rw [if_pos h]; have : ¬ x = t := by omega
            simp [this]
          · subst h; simp
          · rw [if_neg (by omega), if_pos h]; have : ¬ x = t := by omega
            simp [this]
        have HC := Lib.hid hc
        clear hc
        obtain ⟨c, hcc⟩ : ∃ c, cmpI x t = c := ⟨_, rfl⟩
        rw [hcc] at HC ⊢
        clear hcc
        go_wp2
        go_ret2
        exact ⟨by rw [HI.out, HH.out, ← HC.out]; rfl, HB2.out⟩
      · have hh : hit l t = false := by unfold hit; rw [HI.out, HN.out]; simp [hin]
        have HH := Lib.hid hh
        clear hh
        go_wp2
        go_ret2
        exact ⟨by rw [HI.out, HH.out]; rfl, HB.out⟩
set_option maxRecDepth 100000 in
set_option maxHeartbeats 1600000 in
theorem place_any (A : Option Addr) (cap : Nat) (l : List Nd) (lv nx nw : Int) (a : Int) (w : World) (hl : l.length ≤ 1000000) (hr : NodesAt w A l) :
    Calls Tryd.prog 82 #[.agg #[.slice A l.length cap, .int .i64 lv, .int .i64 nx, .int .u64 nw], .int .i64 a] w fun e w' => e = .returned (.tuple #[.int .i64 (plc l a : Int), .bool (hit l a)]) ∧ Below w.heap.size w w' := by
  have hcon := fun (w1 : World) (h1 : Below w.heap.size w w1) => bsf_any A cap l a w1 (by omega) (hr.below h1)
  have HC := Lib.hid hcon
  clear hcon hr
  obtain ⟨p, hp⟩ : ∃ p, p = (plc l a : Int) := ⟨_, rfl⟩
  obtain ⟨q, hq⟩ : ∃ q, q = hit l a := ⟨_, rfl⟩
  rw [← hp, ← hq] at HC ⊢
  clear hp hq
  obtain ⟨n, hn⟩ : ∃ n, n = l.length := ⟨_, rfl⟩
  rw [← hn] at HC ⊢
  clear hn hl
  go_enter Tryd.func82, Tryd.ntmps82
  go_wp2_with fail
  refine (HC.out _ ((Below.refl _ _).alloc (Nat.le_refl _) _)).mono ?_
  rintro e w2 ⟨rfl, hb2⟩
  have HB := Lib.hid (((Below.refl w.heap.size w).alloc (Nat.le_refl _) (.cells #[.slice A n cap, .int .i64 lv, .int .i64 nx, .int .u64 nw] 28)).trans (hb2.mono (by simp)))
  clear hb2
  go_wp2
  go_ret2
  exact ⟨rfl, HB.out⟩
end Go.Proofs.YtfdhehjfbcddgaaDoor.Pr
