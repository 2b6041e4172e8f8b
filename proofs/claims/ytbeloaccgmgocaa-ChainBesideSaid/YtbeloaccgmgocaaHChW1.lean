/- chain.whole's closure: does a link's image not fit? Conditions: the first link of the row that the closure holds lies; the image's cells lie. -/
import Derived.Test.YtbeloaccgmgocaaHChFind
import Derived.Test.YtbeloaccgmgocaaHRight
import Derived.Test.YtbeloaccgmgocaaRegion
namespace Go.Proofs.Ytbeloaccgmgocaa.Pr
open Go.RowKit Go.BigFrame Go.Proofs.YtbeloaccgmgocaaW.PrintWords Go.Proofs.YtbeloaccgmgocaaW.PrintLast Go.Proofs.Ytbeloaccgmgocaa
set_option linter.unusedVariables false
def unlike (c0 x2 : Int) (r : Bool) : Bool := !r || (x2 != c0)
set_option maxRecDepth 100000 in
set_option maxHeartbeats 1600000 in
theorem whole1_any (x0 x1 x2 c0 : Int) (B : Option Addr) (m c g b off n cap : Nat) (cs : List C) (w : World) (hm : m ≤ maxLen) (hr : CRow w B m cs) (hg : w.cell? ⟨g, 0, none⟩ = some (.slice (some ⟨b, off, none⟩) n cap)) (hn : 0 < n) (h2 : w.cell? ⟨b, off + 2, none⟩ = some (.int .i64 c0)) :
    Calls Try.prog 47 #[.agg #[.int .i64 x0, .int .i64 x1, .int .i64 x2, .slice B m c], .pointer (some ⟨g, 0, none⟩)] w fun e w' => e = .returned (.bool (unlike c0 x2 (rightB x2 cs))) ∧ Below w.heap.size w w' := by
  have hgl := block_lt_of_cell hg
  have hbl := block_lt_of_cell h2
  have hb0 : Below w.heap.size w (w.alloc (.cells #[.int .i64 x0, .int .i64 x1, .int .i64 x2, .slice B m c] 32)) := (Below.refl _ _).alloc (Nat.le_refl _) _
  obtain ⟨q, hq⟩ : ∃ q, q = rightB x2 cs := ⟨_, rfl⟩
  have hcall := fun (W : World) (hB : Below w.heap.size w W) => cright_any B m c x2 cs W hm (hr.below hB)
  rw [← hq] at hcall ⊢
  clear hq
  have hk := Blk.new w 32 #[.int .i64 x0, .int .i64 x1, .int .i64 x2, .slice B m c]
  have e2 := hk.cell 2
  have e3 := hk.cell 3
  rw [show (#[Value.int IntKind.i64 x0, .int .i64 x1, .int .i64 x2, .slice B m c] : Array Value)[2]? = some (.int .i64 x2) from rfl] at e2
  rw [show (#[Value.int IntKind.i64 x0, .int .i64 x1, .int .i64 x2, .slice B m c] : Array Value)[3]? = some (.slice B m c) from rfl] at e3
  have e4 := (hb0.cell (p := ⟨g, 0, none⟩) hgl).trans hg
  have e5 := (hb0.cell (p := ⟨b, off + 2, none⟩) hbl).trans h2
  have HC := Lib.hid hcall
  have HB := Lib.hid hb0
  have E2 := Lib.hid e2
  have E3 := Lib.hid e3
  have E4 := Lib.hid e4
  have E5 := Lib.hid e5
  clear hcall hr hk hb0 hg h2 e2 e3 e4 e5
  go_enter Try.func47, Try.ntmps47
  go_upto_region 1 with fail
  generalize (w.alloc (.cells #[.int .i64 x0, .int .i64 x1, .int .i64 x2, .slice B m c] 32)) = w1 at HB E2 E3 E4 E5 ⊢
  have f2 := fun p : Behind w1 => p.cell E2.out
  have f3 := fun p : Behind w1 => p.cell E3.out
  have f4 := fun p : Behind w1 => p.cell E4.out
  have f5 := fun p : Behind w1 => p.cell E5.out
  have hc := fun p : Behind w1 => behind_of (HC.out p.v (HB.out.trans (p.h.mono HB.out.size)))
  have HC2 := Lib.hid hc
  clear hc
  by_cases hx : x2 = c0
  · have hx1 : (x2 != c0) = false := by simpa using hx
    clear hx
    cases q
    all_goals
      refine wp_region_behind (by kernel_rfl) (by kernel_rfl) ?_
      repeat (go_big_quiet_step (first | (go_at_call 40; with_reducible exact HC2.out _)))
      refine wpQuiet_nil ?_
      intro w4 hb4
      clear f2 f3 f4 f5
      go_wp2
      go_ret
      exact ⟨ret_bool (by unfold unlike; rw [hx1]; rfl), HB.out.trans (hb4.mono HB.out.size)⟩
  · have hx1 : (x2 != c0) = true := by simpa using hx
    clear hx
    cases q
    all_goals
      refine wp_region_behind (by kernel_rfl) (by kernel_rfl) ?_
      repeat (go_big_quiet_step (first | (go_at_call 40; with_reducible exact HC2.out _)))
      refine wpQuiet_nil ?_
      intro w4 hb4
      clear f2 f3 f4 f5
      go_wp2
      go_ret
      exact ⟨ret_bool (by unfold unlike; rw [hx1]; rfl), HB.out.trans (hb4.mono HB.out.size)⟩
end Go.Proofs.Ytbeloaccgmgocaa.Pr
