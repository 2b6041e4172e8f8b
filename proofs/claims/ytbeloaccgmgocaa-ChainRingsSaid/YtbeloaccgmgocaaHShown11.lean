/- The contract of rootcellarlaw11.shown: what the document shows holds. No conditions. -/
import Derived.Test.YtbeloaccgmgocaaHChFold
import Derived.Test.YtbeloaccgmgocaaPrx1
import Derived.Test.YtbeloaccgmgocaaPrx2
namespace Go.Proofs.Ytbeloaccgmgocaa.Pr
open Go.RowKit Go.Proofs.YtbeloaccgmgocaaW.PrintWords Go.Proofs.YtbeloaccgmgocaaW.PrintLast Go.Proofs.Ytbeloaccgmgocaa
set_option linter.unusedVariables false
def sh3 : List SL := [⟨1, 0, ⟨2, []⟩⟩, ⟨2, 1, ⟨2, []⟩⟩, ⟨3, 2, ⟨2, []⟩⟩]
def sp3 : List SL := [⟨3, 2, ⟨2, []⟩⟩, ⟨2, 1, ⟨2, []⟩⟩, ⟨1, 0, ⟨2, []⟩⟩]
theorem sh_path : pathP sh3 3 = (sp3, 0) := by rfl
theorem sh_ids : idsL sh3 3 = ([3, 2, 1], 0) := by unfold idsL; rw [sh_path]; rfl
theorem sh_whole : wholeL sh3 3 = (sp3, 0) := by unfold wholeL; rw [sh_path]; rfl
theorem sh_sized : sizedL sh3 = true := by decide
theorem sh_right : cell_Right.f 2 [] = some true := by rfl
theorem sh_over (k : Nat) : cell_Over.f (k + 5) 2 [] 2 [] = some (2, []) := by
  unfold cell_Over.f
  rw [sh_right]
  rfl
theorem sh_fold : foldO (sp3.take 2) 2 [] = some (2, []) := by
  show foldO [⟨3, 2, ⟨2, []⟩⟩, ⟨2, 1, ⟨2, []⟩⟩] 2 [] = _
  rw [foldO, overX_of (sh_over 0), Option.bind_some, foldO, overX_of (sh_over 0), Option.bind_some, foldO]
theorem sh_same : rootcellarlaw11_sameInts.f 9 [3, 2, 1] [3, 2, 1] = some true := by
  unfold rootcellarlaw11_sameInts.f
  simp [rootcellarlaw11_sameInts.l0, rd, wrap64]
abbrev b12 : Array Value := #[.int .i64 1, .int .i64 0, .int .i64 2, .slice none 0 0, .int .i64 2, .int .i64 1, .int .i64 2, .slice none 0 0, .int .i64 3, .int .i64 2, .int .i64 2, .slice none 0 0]
theorem sh_links {w : World} {g : Nat} (h : Blk w g 32 b12) : LinksAt w (some ⟨g, 0, none⟩) sh3 := by
  intro _
  refine ⟨g, 0, rfl, h.lt, fun i hi => ⟨none, 0, ?_⟩⟩
  have hi3 : i < 3 := hi
  match i, hi3 with
  | 0, _ => exact ⟨h.cell 0, h.cell 1, h.cell 2, h.cell 3, Nat.le_refl _, Kd.C_nil _ _⟩
  | 1, _ => exact ⟨h.cell 4, h.cell 5, h.cell 6, h.cell 7, Nat.le_refl _, Kd.C_nil _ _⟩
  | 2, _ => exact ⟨h.cell 8, h.cell 9, h.cell 10, h.cell 11, Nat.le_refl _, Kd.C_nil _ _⟩
set_option maxRecDepth 100000 in
set_option maxHeartbeats 1600000 in
theorem shown11_any (w : World) : Calls Try.prog 9 #[] w fun e w' => e = .returned (.bool true) ∧ Below w.heap.size w w' := by
  have hnew := fun w => new_any 2 w
  rw [show newR 2 = (2, 0) from rfl] at hnew
  dsimp only at hnew
  have HNEW := Lib.hid hnew
  clear hnew
  go_enter Try.func9, Try.ntmps9
  go_wp2_with fail
  refine (HNEW.out _).mono ?_
  rintro e w1 ⟨rfl, hb1⟩
  have HB1 := Lib.hid hb1
  clear hb1
  go_wp2_with fail
  have hk := Blk.new (w1.alloc (.cells #[.int .i64 2, .slice none 0 0] 26)) 32 b12
  rw [show (w1.alloc (.cells #[.int .i64 2, .slice none 0 0] 26)).heap.size = w1.heap.size + 1 by simp] at hk
  have HK := Lib.hid hk
  have HB2 := Lib.hid ((HB1.out.alloc HB1.out.size (.cells #[.int .i64 2, .slice none 0 0] 26)).alloc (by have := HB1.out.size; simp; omega) (.cells b12 32))
  clear hk HB1
  revert HK HB2
  generalize ((w1.alloc (.cells #[.int .i64 2, .slice none 0 0] 26)).alloc (.cells b12 32)) = w2
  generalize w1.heap.size + 1 = g
  intro HK HB2
  have hids : Calls Try.prog 12 #[.slice (some ⟨g, 0, none⟩) 3 3, .int .i64 3] w2 fun e w' => ∃ v : Value, e = .returned (.tuple #[v, .int .i64 0]) ∧ w'.ownsRow w2.heap.size 3 1 v 3 (nums .i64 [3, 2, 1]) ∧ Below w2.heap.size w2 w' := by
    have := ids_any (some ⟨g, 0, none⟩) 3 sh3 3 w2 (by decide) (sh_links HK.out) sh_sized
    rw [sh_ids] at this
    exact this
  refine hids.mono ?_
  rintro e w3 ⟨v, rfl, ho, hb3⟩
  obtain ⟨A3, c3, rfl⟩ := own_formCh ho
  have HK3 := Lib.hid (HK.out.below hb3 HK.out.lt)
  have HB3 := Lib.hid (HB2.out.trans (hb3.mono HB2.out.size))
  have HO3 := Lib.hid ho
  clear ho hb3 hids HK HB2 HNEW
  go_wp2_with fail
  have hfold : Calls Try.prog 14 #[.slice (some ⟨g, 0, none⟩) 3 3, .int .i64 3, .int .i64 2] w3 fun e w' => ∃ v : Value, e = .returned (.tuple #[.agg #[.int .i64 2, v], .int .i64 1, .int .i64 0]) ∧ ownFo w' w3.heap.size v [] ∧ Below w3.heap.size w3 w' :=
    fold_any (some ⟨g, 0, none⟩) 3 sh3 3 1 2 [] w3 (by decide) (sh_links HK3.out) sh_sized (by rw [sh_whole]) ⟨2, 1, ⟨2, []⟩⟩ (by rw [sh_whole]; rfl) (by rw [sh_whole]; exact sh_fold)
  refine hfold.mono ?_
  rintro e w4 ⟨v, rfl, ho4, hb4⟩
  obtain ⟨A4, c4, rfl⟩ := own_formCh ho4
  have HO4 := Lib.hid (pw_own_below HO3.out hb4)
  have HB4 := Lib.hid (HB3.out.trans (hb4.mono HB3.out.size))
  clear hfold ho4 hb4 HK3 HO3 HB3
  go_wp2_with fail
  have ho2 := own_lit (w4.alloc (.cells #[.int .i64 2, .slice A4 0 c4] 26)) w4.heap.size 3 .i64 [3, 2, 1] (by simp) (by decide)
  rw [show (w4.alloc (.cells #[.int .i64 2, .slice A4 0 c4] 26)).heap.size = w4.heap.size + 1 by simp] at ho2
  have HN2 : Hid (World.ownsRow ((w4.alloc (.cells #[.int .i64 2, .slice A4 0 c4] 26)).alloc (.cells #[.int .i64 3, .int .i64 2, .int .i64 1] 3)) w4.heap.size 3 1 (.slice (some ⟨w4.heap.size + 1, 0, none⟩) 3 3) 3 (nums .i64 [3, 2, 1])) := Lib.hid ho2
  have HN1 := Lib.hid ((HO4.out.alloc (.cells #[.int .i64 2, .slice A4 0 c4] 26)).alloc (.cells #[.int .i64 3, .int .i64 2, .int .i64 1] 3))
  have HB5 := Lib.hid ((HB4.out.alloc HB4.out.size (.cells #[.int .i64 2, .slice A4 0 c4] 26)).alloc (by have := HB4.out.size; simp; omega) (.cells #[.int .i64 3, .int .i64 2, .int .i64 1] 3))
  clear ho2 HO4 HB4
  revert HN2 HN1 HB5
  generalize ((w4.alloc (.cells #[.int .i64 2, .slice A4 0 c4] 26)).alloc (.cells #[.int .i64 3, .int .i64 2, .int .i64 1] 3)) = w5
  intro HN2 HN1 HB5
  obtain ⟨B1, d1, he1, hl1, hC1⟩ := Kd.R_reads (Kd.R_of_own (ok := fun _ => True) (xs := [3, 2, 1]) (enc := fun x => Value.int .i64 x) (h1 := fun _ => rfl) HN1.out (fun _ _ => trivial))
  obtain ⟨B2, d2, he2, hl2, hC2⟩ := Kd.R_reads (Kd.R_of_own (ok := fun _ => True) (xs := [3, 2, 1]) (enc := fun x => Value.int .i64 x) (h1 := fun _ => rfl) HN2.out (fun _ _ => trivial))
  injection he1 with a1 a2 a3
  injection he2 with a4 a5 a6
  rw [← a1] at hC1
  rw [← a4] at hC2
  rw [← a3] at hl1
  rw [← a6] at hl2
  have hsame := rootcellarlaw11_sameInts.calls 9 A3 c3 [3, 2, 1] (some ⟨w4.heap.size + 1, 0, none⟩) 3 [3, 2, 1] true w5 hC1 hl1 hC2 hl2 sh_same
  have HSAME := Lib.hid hsame
  clear hsame hC1 hC2 hl1 hl2 a1 a2 a3 a4 a5 a6 HN1 HN2
  refine (show Calls Try.prog 17 #[.slice A3 3 c3, .slice (some ⟨w4.heap.size + 1, 0, none⟩) 3 3] w5 _ from HSAME.out).mono ?_
  rintro e w6 ⟨rfl, hd⟩
  have HB6 := Lib.hid (HB5.out.trans (hd.below.mono HB5.out.size))
  clear hd HSAME HB5
  go_wp2_with fail
  go_ret
  exact ⟨rfl, HB6.out⟩
def rootcellarlaw11_shown.f : Option (Bool) := some true
theorem rootcellarlaw11_shown.calls (r : Bool) (w : World) (h : rootcellarlaw11_shown.f = some r) :
    Calls Try.prog 9 #[] w fun e w' => e = .returned (.bool r) ∧ Below w.heap.size w w' := by
  obtain rfl := (Option.some.inj h)
  exact shown11_any w
end Go.Proofs.Ytbeloaccgmgocaa.Pr
