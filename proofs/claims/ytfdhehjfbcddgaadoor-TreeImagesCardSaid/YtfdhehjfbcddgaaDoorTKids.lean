/- tree.Kids: what hangs on a node. Condition: the nodes are not more than a million. -/
import Derived.Test.YtfdhehjfbcddgaaDoorTFind
import Derived.Test.YtfdhehjfbcddgaaDoorTStep
namespace Go.Proofs.YtfdhehjfbcddgaaDoor.Pr
open Go.RowKit Go.Proofs.YtfdhehjfbcddgaaDoorW.PrintWords Go.Proofs.YtfdhehjfbcddgaaDoorW.PrintLast Go.Proofs.YtfdhehjfbcddgaaDoor
set_option linter.unusedVariables false
def kidB (a : Int) (x : Nd) : Bool := decide (x.par = a) && decide (¬ x.id = a)
def kidsR (l : List Nd) (a : Int) : List Int := (l.filter (kidB a)).map (·.id)
/-- what hangs on a node; 0: the live disk -/
def kidsN (l : List Nd) (lv a : Int) : List Int := kidsR l a ++ (if lv = a then [0] else [])
theorem kids_step (l : List Nd) (a : Int) (j : Nat) (h : j < l.length) : kidsR (l.take (j + 1)) a = kidsR (l.take j) a ++ (if kidB a l[j] = true then [l[j].id] else []) := by
  unfold kidsR
  rw [List.take_succ_eq_append_getElem h, List.filter_append, List.map_append]
  congr 1
  rw [List.filter_cons]
  by_cases hk : kidB a l[j] = true
  · rw [if_pos hk, if_pos hk]; rfl
  · rw [if_neg hk, if_neg hk]; rfl
theorem kidsR_len (l : List Nd) (a : Int) : (kidsR l a).length ≤ l.length := by
  unfold kidsR
  rw [List.length_map]
  exact List.length_filter_le _ _
theorem own_formT {w : World} {base n : Nat} {e : TypeId} {size : Nat} {v : Value} {xs : List Value} (h : w.ownsRow base e size v n xs) : ∃ A c, v = .slice A n c := by
  rcases h.2 with ⟨rfl, rfl⟩ | ⟨g, cap, _, rfl, _⟩
  · exact ⟨_, _, rfl⟩
  · exact ⟨_, _, rfl⟩
theorem infoI : (Tryd.prog.info? 3).map (fun i => (i.zero, i.size, i.bytes)) = some (some (.int .i64 0), 1, 8) := by kernel_rfl
set_option maxRecDepth 100000 in
set_option maxHeartbeats 4000000 in
theorem kids_any (A : Option Addr) (cap : Nat) (l : List Nd) (lv nx nw : Int) (a : Int) (w : World) (hl : l.length ≤ 1000000) (hr : NodesAt w A l) :
    Calls Tryd.prog 30 #[.agg #[.slice A l.length cap, .int .i64 lv, .int .i64 nx, .int .u64 nw], .int .i64 a] w fun e w' => ∃ v, e = .returned v ∧ w'.ownsRow w.heap.size 3 1 v (kidsN l lv a).length (nums .i64 (kidsN l lv a)) ∧ Below w.heap.size w w' := by
  have hbel : Below w.heap.size w (w.alloc (.cells #[.slice A l.length cap, .int .i64 lv, .int .i64 nx, .int .u64 nw] 28)) := (Below.refl _ _).alloc (Nat.le_refl _) _
  have hk0 := Blk.new w 28 #[.slice A l.length cap, .int .i64 lv, .int .i64 nx, .int .u64 nw]
  have hsz : (w.alloc (.cells #[.slice A l.length cap, .int .i64 lv, .int .i64 nx, .int .u64 nw] 28)).heap.size = w.heap.size + 1 := by simp
  have HR := Lib.hid (hr.below hbel)
  have HB := Lib.hid hbel
  have HK := Lib.hid hk0
  have HSZ := Lib.hid hsz
  obtain ⟨n, hn⟩ : ∃ n, l.length = n := ⟨_, rfl⟩
  have HN := Lib.hid hn
  obtain ⟨KN, hkn⟩ : ∃ KN, kidsN l lv a = KN := ⟨_, rfl⟩
  have HKN := Lib.hid hkn
  rw [hn] at hl HB HK HSZ HR
  rw [hkn, hn]
  clear hbel hk0 hsz hr hn hkn
  go_enter Tryd.func30, Tryd.ntmps30
  go_upto_region 1 with fail
  revert HB HK HSZ HR
  generalize (w.alloc (.cells #[.slice A n cap, .int .i64 lv, .int .i64 nx, .int .u64 nw] 28)) = w0
  intro HR HSZ HK HB
  have t0 : w0.cell? ⟨w.heap.size, 0, none⟩ = some (.slice A n cap) := (HK.out.cell 0).trans rfl
  go_wp2_with fail
  go_loopw [5, 11] (fun v5 v11 wr => ∃ (j : Nat) (Ai : Option Addr) (ci m : Nat), j ≤ n ∧ v11 = .int .i64 j ∧ v5 = .slice Ai m ci ∧ Hid (m = (kidsR (l.take j) a).length) ∧ Hid (wr.ownsRow w0.heap.size 3 1 (.slice Ai m ci) (kidsR (l.take j) a).length (nums .i64 (kidsR (l.take j) a))) ∧ Hid (Below w0.heap.size w0 wr)) (fun _ v11 _ => n - (intOf v11).toNat)
  case atStart => exact ⟨0, none, 0, 0, by omega, rfl, rfl, Lib.hid rfl, Lib.hid (own_nil _ _ _ _), Lib.hid (Below.refl _ _)⟩
  case round =>
    clear t0
    obtain ⟨j, Ai, ci, m, hj, rfl, rfl, hm, ho, hb⟩ := hrel
    by_cases hlt : j < n
    · have hjl : j < l.length := by rw [HN.out]; exact hlt
      obtain ⟨b, off, rfl, ⟨cs, fr, hob⟩, hcell⟩ := HR.out (by omega)
      have hblt := obj_lt hob
      obtain ⟨hc0, hc1, hc2, hc3, hc4, hc5⟩ := nodes_get hcell j hjl
      have HST := Lib.hid (kids_step l a j hjl)
      obtain ⟨x, hx⟩ : ∃ x, l[j]'hjl = x := ⟨_, rfl⟩
      rw [hx] at hc0 hc1 hc2 hc3 hc4 hc5 HST
      obtain ⟨y0, y1, y2, y3, y4, y5⟩ := x
      dsimp only at hc0 hc1 hc2 hc3 hc4 hc5 HST
      have d0 := (hb.out.cell (p := ⟨b, off + j * 6, none⟩) hblt).trans hc0
      have d1 := (hb.out.cell (p := ⟨b, off + j * 6 + 1, none⟩) hblt).trans hc1
      have d2 := (hb.out.cell (p := ⟨b, off + j * 6 + 2, none⟩) hblt).trans hc2
      have d3 := (hb.out.cell (p := ⟨b, off + j * 6 + 3, none⟩) hblt).trans hc3
      have d4 := (hb.out.cell (p := ⟨b, off + j * 6 + 4, none⟩) hblt).trans hc4
      have d5 := (hb.out.cell (p := ⟨b, off + j * 6 + 5, none⟩) hblt).trans hc5
      have HX := Lib.hid (Blk.new wr 42 #[.int .i64 y0, .int .i64 y1, .string y2, .int .u64 y3, .bool y4, .bool y5])
      have HO2 := Lib.hid (ho.out.alloc (.cells #[.int .i64 y0, .int .i64 y1, .string y2, .int .u64 y3, .bool y4, .bool y5] 42))
      have HB2 := Lib.hid (hb.out.alloc hb.out.size (.cells #[.int .i64 y0, .int .i64 y1, .string y2, .int .u64 y3, .bool y4, .bool y5] 42))
      clear hcell hc0 hc1 hc2 hc3 hc4 hc5 hx hob ho
      go_upto_region 5 with fail
      obtain ⟨g, hg⟩ : ∃ g, g = wr.heap.size := ⟨_, rfl⟩
      rw [← hg] at HX ⊢
      revert HX HO2 HB2
      generalize (wr.alloc (.cells #[.int .i64 y0, .int .i64 y1, .string y2, .int .u64 y3, .bool y4, .bool y5] 42)) = w2
      intro HO2 HB2 HX
      have x0 : w2.cell? ⟨g, 0, none⟩ = some (.int .i64 y0) := (HX.out.cell 0).trans rfl
      have x1 : w2.cell? ⟨g, 1, none⟩ = some (.int .i64 y1) := (HX.out.cell 1).trans rfl
      clear d0 d1 d2 d3 d4 d5 hb hg
      by_cases hp : y1 = a
      · by_cases hi : y0 = a
        · have hkb : kidB a ⟨y0, y1, y2, y3, y4, y5⟩ = false := by unfold kidB; simp [hi]
          have hst := HST.out
          rw [hkb, if_neg (by decide), List.append_nil] at hst
          have HST2 := Lib.hid hst
          clear hst HST hkb
          subst hp
          subst hi
          go_wp2
          go_roundw
          case rel => exact ⟨j + 1, Ai, ci, m, by omega, by go_num, rfl, by rw [HST2.out]; exact hm, by rw [HST2.out]; exact HO2, HB2⟩
          case measure => simp [intOf]; omega
        · have hkb : kidB a ⟨y0, y1, y2, y3, y4, y5⟩ = true := by unfold kidB; simp [hi, hp]
          have hst := HST.out
          rw [hkb, if_pos rfl] at hst
          have HST2 := Lib.hid hst
          have hkl : ((kidsR (l.take j) a).length + 1) * 8 ≤ 140737488355328 := by
            have := kidsR_len (l.take j) a
            rw [List.length_take] at this
            omega
          have HKL := Lib.hid hkl
          clear hst HST hkb hkl
          subst hp
          obtain ⟨X, hX⟩ : ∃ X, X = kidsR (l.take j) y1 := ⟨_, rfl⟩
          rw [← hX] at HKL HO2 HST2 hm
          have HSW := Lib.hid HB2.out.size
          clear hX
          go_wp2_with (at_builtin; refine print_append_num (w0 := w0) w0.heap.size rfl _ _ 55 3 .i64 8 rfl Tryd.underlying55 infoI (by decide) (.slice Ai m ci) X y0 rfl rfl HO2.out HB2.out HSW.out HKL.out ?_)
          intro v1 w3 hown hb3 _ _
          obtain ⟨A1, c1, rfl⟩ := own_formT hown
          have HO3 := Lib.hid hown
          have HB3 := Lib.hid hb3
          clear hown hb3 x0 x1 HO2 HB2 HSW
          go_wp2
          go_roundw
          case rel => exact ⟨j + 1, A1, c1, _, by omega, by go_num, rfl, Lib.hid (by rw [HST2.out, List.length_append]; rfl), by rw [HST2.out, List.length_append]; exact HO3, HB3⟩
          case measure => simp [intOf]; omega
      · have hkb : kidB a ⟨y0, y1, y2, y3, y4, y5⟩ = false := by unfold kidB; simp [hp]
        have hst := HST.out
        rw [hkb, if_neg (by decide), List.append_nil] at hst
        have HST2 := Lib.hid hst
        clear hst HST hkb
        go_wp2
        go_roundw
        case rel => exact ⟨j + 1, Ai, ci, m, by omega, by go_num, rfl, by rw [HST2.out]; exact hm, by rw [HST2.out]; exact HO2, HB2⟩
        case measure => simp [intOf]; omega
    · obtain rfl : j = n := by omega
      have htk : l.take j = l := List.take_of_length_le (by rw [HN.out]; exact Nat.le_refl _)
      rw [htk] at ho hm
      have k0 := HK.out.below hb.out (by rw [HSZ.out]; omega)
      have t1 : wr.cell? ⟨w.heap.size, 1, none⟩ = some (.int .i64 lv) := (k0.cell 1).trans rfl
      have hkw : w.heap.size ≤ w0.heap.size := HB.out.size
      have HBW := Lib.hid (HB.out.trans (hb.out.mono hkw))
      have HKE := Lib.hid (show KN = kidsR l a ++ (if lv = a then [0] else []) from HKN.out.symm)
      clear k0 htk hlt hj
      by_cases hv : lv = a
      · have hkl : ((kidsR l a).length + 1) * 8 ≤ 140737488355328 := by
          have := kidsR_len l a
          have := HN.out
          omega
        have HKL := Lib.hid hkl
        have hke := HKE.out
        rw [if_pos hv] at hke
        have HKE2 := Lib.hid hke
        clear hkl hke HKE HKN
        subst hv
        obtain ⟨X, hX⟩ : ∃ X, X = kidsR l lv := ⟨_, rfl⟩
        rw [← hX] at HKL ho HKE2 hm
        have HSW := Lib.hid hb.out.size
        clear hX
        go_wp2_with (at_builtin; refine print_append_num (w0 := w0) w0.heap.size rfl _ _ 55 3 .i64 8 rfl Tryd.underlying55 infoI (by decide) (.slice Ai m ci) X 0 rfl rfl ho.out hb.out HSW.out HKL.out ?_)
        intro v1 w3 hown hb3 _ _
        have HO3 := Lib.hid (own_weaken hown hkw)
        have HB3 := Lib.hid (HB.out.trans (hb3.mono hkw))
        clear hown hb3
        go_wp2
        go_ret
        exact ⟨_, rfl, by rw [HKE2.out, List.length_append]; exact HO3.out, HB3.out⟩
      · have hke := HKE.out
        rw [if_neg hv, List.append_nil] at hke
        have HKE2 := Lib.hid hke
        clear hke HKE HKN
        go_wp2
        go_ret
        exact ⟨_, rfl, by rw [HKE2.out]; exact own_weaken ho.out hkw, HBW.out⟩
end Go.Proofs.YtfdhehjfbcddgaaDoor.Pr
