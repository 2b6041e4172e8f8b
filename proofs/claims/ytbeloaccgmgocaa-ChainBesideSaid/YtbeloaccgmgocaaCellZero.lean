/- The contracts of cell.zero (at sixteen bytes) and cell.New. Conditions: the text has sixteen bytes. -/
import Derived.Test.YtbeloaccgmgocaaWords
import Derived.Test.YtbeloaccgmgocaaChecked
import Derived.Lib.BufferWrite
import Derived.Stop.BytesEq
import Derived.Laws.ResultCell
namespace Go.Proofs.Ytbeloaccgmgocaa
open Go.RowKit
theorem cl_info : (Try.prog.info? 98).map (·.size) = some 16 := by kernel_rfl
theorem u8_one : (Try.prog.info? 5).map (·.size) = some 1 := by kernel_rfl
def noughts16 : List UInt8 := List.replicate 16 0
def zeroB (s : ByteArray) : Bool := s.data.toList == noughts16
theorem cells_map (l : List UInt8) : Lib.byteCells l = l.map Extern.Stop.cell := rfl
set_option maxRecDepth 100000 in
theorem zero_any (s : ByteArray) (hs : s.size = 16) (w : World) :
    Calls Try.prog 34 #[.string s] w fun e w' => e = .returned (.bool (zeroB s)) ∧ Below w.heap.size w w' := by
  have hl : s.data.toList.length = 16 := by rw [← hs]; exact Array.length_toList
  have hsz : ((s.data.toList.map Extern.Stop.cell).toArray).size = 16 := by simp [hl]
  have heq := fun w => run_eql_bytes (P := Try.prog) w 98 5 16 Try.underlying98 Try.underlying5 Try.sizeOf5 s.data.toList noughts16 hl rfl
  rw [show (noughts16.map Extern.Stop.cell).toArray = #[Value.int .u8 0, .int .u8 0, .int .u8 0, .int .u8 0, .int .u8 0, .int .u8 0, .int .u8 0, .int .u8 0, .int .u8 0, .int .u8 0, .int .u8 0, .int .u8 0, .int .u8 0, .int .u8 0, .int .u8 0, .int .u8 0] from rfl] at heq
  obtain ⟨A, hA⟩ : ∃ A, A = (s.data.toList.map Extern.Stop.cell).toArray := ⟨_, rfl⟩
  rw [← hA] at heq hsz
  have HA := Lib.hid hA
  clear hA hl
  go_enter Try.func34, Try.ntmps34
  go_wp2
  rw [Lib.run_copy_row_string (P := Try.prog) _ _ _ _ 5 w.heap.size 0 16 16 s _ _ Try.underlying70 u8_one (heap_alloc_new w _) (by omega) (by simp [hs])]
  simp only [Result.andThen]
  rw [Oper.upon_value]
  have hb0 := Below.refl w.heap.size w
  have hb : Blk ((w.alloc (Obj.cells #[Value.int .u8 0, .int .u8 0, .int .u8 0, .int .u8 0, .int .u8 0, .int .u8 0, .int .u8 0, .int .u8 0, .int .u8 0, .int .u8 0, .int .u8 0, .int .u8 0, .int .u8 0, .int .u8 0, .int .u8 0, .int .u8 0] 98)).setRow w.heap.size A) w.heap.size 98 A := (Blk.new w _ _).setRow _
  have hbel := below_setRow' (g := w.heap.size) (hb0.alloc (Nat.le_refl _) (Obj.cells #[Value.int .u8 0, .int .u8 0, .int .u8 0, .int .u8 0, .int .u8 0, .int .u8 0, .int .u8 0, .int .u8 0, .int .u8 0, .int .u8 0, .int .u8 0, .int .u8 0, .int .u8 0, .int .u8 0, .int .u8 0, .int .u8 0] 98)) (Nat.le_refl _) A
  rw [show (List.take 0 (#[Value.int .u8 0, .int .u8 0, .int .u8 0, .int .u8 0, .int .u8 0, .int .u8 0, .int .u8 0, .int .u8 0, .int .u8 0, .int .u8 0, .int .u8 0, .int .u8 0, .int .u8 0, .int .u8 0, .int .u8 0, .int .u8 0] : Array Value).toList ++ Lib.byteCells s.data.toList ++ List.drop (0 + s.size) (#[Value.int .u8 0, .int .u8 0, .int .u8 0, .int .u8 0, .int .u8 0, .int .u8 0, .int .u8 0, .int .u8 0, .int .u8 0, .int .u8 0, .int .u8 0, .int .u8 0, .int .u8 0, .int .u8 0, .int .u8 0, .int .u8 0] : Array Value).toList).toArray = A from by rw [HA.out, hs, cells_map]; simp]
  generalize (w.alloc (Obj.cells #[Value.int .u8 0, .int .u8 0, .int .u8 0, .int .u8 0, .int .u8 0, .int .u8 0, .int .u8 0, .int .u8 0, .int .u8 0, .int .u8 0, .int .u8 0, .int .u8 0, .int .u8 0, .int .u8 0, .int .u8 0, .int .u8 0] 98)).setRow w.heap.size A = w2 at hb hbel
  have HB := Lib.hid hb
  have HL := Lib.hid hbel
  have HS := Lib.hid hsz
  clear hb hbel hb0 hs hsz
  go_wp2_with (refine wpList_load_row rfl 98 (.tmp 3) rfl w.heap.size rfl 98 A (0, 0) _ HB.out Try.underlying98 rfl (by rw [cl_info, HS.out]) ?_)
  go_ret
  exact ⟨rfl, HL.out⟩
theorem results_row_tmp {P : Program} {fn : Func} {p u : Tmp} {ty : TypeId} (h : fn.results = #[.cell p ty, .tmp u]) (tmps : Array Value) (w : World) (g : Nat) (t : TypeId) (cs : Array Value) (fr : Nat × Nat) (d : TypeDesc)
    (hp : tmps.getD p undef = .pointer (some ⟨g, 0, none⟩)) (hg : w.heap[g]? = some (.cells cs t fr))
    (hu : P.underlying ty = some d) (hd : (match d with | .struct _ | .array _ _ => true | _ => false) = true) (hi : (P.info? ty).map (·.size) = some cs.size) :
    (results fn tmps).run P w = .ok (.tuple #[.agg cs, tmps.getD u undef]) w := by
  have hp' : tmps[p]?.getD undef = .pointer (some ⟨g, 0, none⟩) := by simpa using hp
  rw [results_cell_tmp h]
  simp [hp', asAddr, run_loadVar_row w g t ty cs fr d hg hu hd hi]
def newR (n : Int) : Int × Int := if n < 1 ∨ 64 < n then (0, 1) else (n, 0)
theorem im_info : (Try.prog.info? 26).map (·.size) = some 2 := by kernel_rfl
set_option maxRecDepth 100000 in
theorem new_any (n : Int) (w : World) :
    Calls Try.prog 11 #[.int .i64 n] w fun e w' => e = .returned (.tuple #[.agg #[.int .i64 (newR n).1, .slice none 0 0], .int .i64 (newR n).2]) ∧ Below w.heap.size w w' := by
  by_cases h1 : n < 1
  · have hr : newR n = (0, 1) := by unfold newR; rw [if_pos (.inl h1)]
    rw [hr]
    go_enter Try.func11, Try.ntmps11
    go_wp2
    exact bodyPost_ret (results_row_tmp rfl _ _ w.heap.size _ _ _ _ rfl (heap_alloc_new w _) Try.underlying26 rfl (by rw [im_info]; rfl)) rfl ⟨rfl, (Below.refl _ _).alloc (Nat.le_refl _) _⟩
  · by_cases h2 : 64 < n
    · have hr : newR n = (0, 1) := by unfold newR; rw [if_pos (.inr h2)]
      rw [hr]
      go_enter Try.func11, Try.ntmps11
      go_wp2
      exact bodyPost_ret (results_row_tmp rfl _ _ w.heap.size _ _ _ _ rfl (heap_alloc_new w _) Try.underlying26 rfl (by rw [im_info]; rfl)) rfl ⟨rfl, (Below.refl _ _).alloc (Nat.le_refl _) _⟩
    · have hr : newR n = (n, 0) := by unfold newR; rw [if_neg (by omega)]
      rw [hr]
      go_enter Try.func11, Try.ntmps11
      go_wp2
      exact bodyPost_ret (results_row_tmp rfl _ _ w.heap.size _ _ _ _ rfl (heap_alloc_new w _) Try.underlying26 rfl (by rw [im_info]; rfl)) rfl ⟨rfl, (Below.refl _ _).alloc (Nat.le_refl _) _⟩
end Go.Proofs.Ytbeloaccgmgocaa
