/- tree.Right: is a tree right? Conditions: the nodes are not more than a million, nor is any name longer; the tables of unicode/utf8 lie in memory. -/
import Derived.Test.YtfdhehjfbcddgaaDoorTMove
import Derived.Test.YtfdhehjfbcddgaaDoorRegion
namespace Go.Proofs.YtfdhehjfbcddgaaDoor.Pr
open Go.RowKit Go.Proofs.YtfdhehjfbcddgaaDoorW.PrintWords Go.Proofs.YtfdhehjfbcddgaaDoorW.PrintLast Go.Proofs.YtfdhehjfbcddgaaDoor
set_option linter.unusedVariables false
theorem NodesAt.take {w : World} {A : Option Addr} {l : List Nd} (h : NodesAt w A l) (j : Nat) : NodesAt w A (l.take j) := by
  intro hp
  have hl : 0 < l.length := by rw [List.length_take] at hp; omega
  obtain ⟨b, off, ha, ho, hc⟩ := h hl
  refine ⟨b, off, ha, ho, fun i u hu => hc i u ?_⟩
  rw [flatE_take encN_len, List.getElem?_take] at hu
  split at hu
  · exact hu
  · cases hu
theorem rightL_no {l : List Nd} {j : Nat} (hj : j < l.length) (h : linkB l j = false) : rightL l = false := by
  unfold rightL
  rw [List.all_eq_false]
  exact ⟨j, List.mem_range.2 hj, by rw [h]; decide⟩
theorem rightL_yes {l : List Nd} (h : ∀ i, i < l.length → linkB l i = true) : rightL l = true := (rightL_iff l).2 h
set_option maxRecDepth 100000 in
set_option maxHeartbeats 4000000 in
theorem tright_any (A : Option Addr) (cap : Nat) (l : List Nd) (lv nx nw : Int) (w : World) (hl : l.length ≤ 1000000) (hcp : l.length ≤ cap) (hr : NodesAt w A l) (hT : Tabs w) (hnm : ∀ x ∈ l, x.name.size ≤ 1000000) :
    Calls Tryd.prog 32 #[.agg #[.slice A l.length cap, .int .i64 lv, .int .i64 nx, .int .u64 nw]] w fun e w' => e = .returned (.bool (rightN ⟨l, lv, nx, nw⟩)) ∧ Below w.heap.size w w' := by
  have hbel : Below w.heap.size w (w.alloc (.cells #[.slice A l.length cap, .int .i64 lv, .int .i64 nx, .int .u64 nw] 28)) := (Below.refl _ _).alloc (Nat.le_refl _) _
  have hk0 := Blk.new w 28 #[.slice A l.length cap, .int .i64 lv, .int .i64 nx, .int .u64 nw]
  have hfind := fun (b : Int) (w1 : World) (hx : NodesAt w1 A l) => find_any A cap l lv nx nw b w1 hl hx
  have hfj := fun (j : Nat) (b : Int) (w1 : World) (hj : j ≤ l.length) (hx : NodesAt w1 A (l.take j)) => find_any A cap (l.take j) 0 0 0 b w1 (by rw [List.length_take]; omega) hx
  have hfj2 : ∀ (j : Nat) (b : Int) (w1 : World), j ≤ l.length → NodesAt w1 A (l.take j) → Calls Tryd.prog 17 #[.agg #[.slice A j cap, .int .i64 0, .int .i64 0, .int .u64 0], .int .i64 b] w1 fun e w' => e = .returned (.tuple #[valN (findN (l.take j) b).1, .bool (findN (l.take j) b).2]) ∧ Below w1.heap.size w1 w' := by
    intro j b w1 hj hx
    have h := hfj j b w1 hj hx
    rw [List.length_take, Nat.min_eq_left hj] at h
    exact h
  have hwell := fun (x : Nd) (w1 : World) (hx : x.name.size ≤ 1000000) (ht : Tabs w1) => well_any x w1 hx ht
  have hr0 := hr.below hbel
  have hT0 := hT.below hbel
  have hrn : rightN ⟨l, lv, nx, nw⟩ = (decide (0 < l.length) && (decide (l.length ≤ 60) && (rightL l && ((findN l lv).2 && (decide ((l.getD (l.length - 1) zN).id < nx) && decide (nx ≤ 2147483647)))))) := rfl
  obtain ⟨R, hR⟩ : ∃ R, rightN ⟨l, lv, nx, nw⟩ = R := ⟨_, rfl⟩
  rw [hR] at hrn ⊢
  obtain ⟨n, hn⟩ : ∃ n, l.length = n := ⟨_, rfl⟩
  have HN := Lib.hid hn
  have HF := Lib.hid hfind
  have HFJ := Lib.hid hfj2
  have HWE := Lib.hid hwell
  have HNM := Lib.hid hnm
  rw [hn] at hl hcp hbel hk0 hr0 hT0 HF HFJ hrn ⊢
  have HRN := Lib.hid hrn
  have HB := Lib.hid hbel
  have HK := Lib.hid hk0
  have HR := Lib.hid hr0
  have HT := Lib.hid hT0
  clear hr hT hfind hfj hfj2 hwell hnm hrn hn hbel hk0 hr0 hT0 hR
  go_enter Tryd.func32, Tryd.ntmps32
  go_upto_region 1 with fail
  revert HB HK HR HT
  generalize (w.alloc (.cells #[.slice A n cap, .int .i64 lv, .int .i64 nx, .int .u64 nw] 28)) = w0
  intro HB HK HR HT
  have t0 : w0.cell? ⟨w.heap.size, 0, none⟩ = some (.slice A n cap) := (HK.out.cell 0).trans rfl
  by_cases h0 : n = 0
  · subst h0
    have hR := HRN.out
    rw [decide_eq_false (by omega), Bool.false_and] at hR
    subst hR
    go_wp2_with fail
    go_ret
    exact ⟨rfl, HB.out⟩
  by_cases h60 : ¬ n ≤ 60
  · have hR := HRN.out
    rw [decide_eq_false h60, Bool.false_and, Bool.and_false] at hR
    subst hR
    go_wp2_with fail
    go_ret
    exact ⟨rfl, HB.out⟩
  have h60 : n ≤ 60 := by omega
  have hR := HRN.out
  rw [decide_eq_true (show 0 < n by omega), decide_eq_true h60, Bool.true_and, Bool.true_and] at hR
  have HRR := Lib.hid hR
  clear hR HRN
  go_wp2_with fail
  go_loopw [24] (fun v24 wr => ∃ (j : Nat), j ≤ n ∧ v24 = .int .i64 (j : Int) ∧ Hid (∀ i, i < j → linkB l i = true) ∧ Hid (Below w0.heap.size w0 wr)) (fun v24 _ => n - (intOf v24).toNat)
  case atStart => exact ⟨0, by omega, rfl, Lib.hid (fun i hi => by omega), Lib.hid (Below.refl _ _)⟩
  case round =>
    clear t0
    obtain ⟨j, hj, rfl, hp, hb⟩ := hrel
    by_cases hlt : j < n
    · have hjl : j < l.length := by rw [HN.out]; exact hlt
      obtain ⟨b, off, rfl, ⟨cs, fr, hob⟩, hcell⟩ := HR.out (by omega)
      have hblt := obj_lt hob
      obtain ⟨hc0, hc1, hc2, hc3, hc4, hc5⟩ := nodes_get hcell j hjl
      have hnmj := HNM.out _ (List.getElem_mem hjl)
      have hlk : linkB l j = (wellB l[j] && (if j = 0 then firstB l[j] else ((findN (l.take j) l[j].par).2 && decide ((l.getD (j - 1) zN).id < l[j].id)))) := by
        unfold linkB; rw [getD_get hjl]
      obtain ⟨x, hx⟩ : ∃ x, l[j]'hjl = x := ⟨_, rfl⟩
      rw [hx] at hc0 hc1 hc2 hc3 hc4 hc5 hnmj hlk
      obtain ⟨y0, y1, y2, y3, y4, y5⟩ := x
      dsimp only at hc0 hc1 hc2 hc3 hc4 hc5 hnmj hlk
      have d0 := (hb.out.cell (p := ⟨b, off + j * 6, none⟩) hblt).trans hc0
      have d1 := (hb.out.cell (p := ⟨b, off + j * 6 + 1, none⟩) hblt).trans hc1
      have d2 := (hb.out.cell (p := ⟨b, off + j * 6 + 2, none⟩) hblt).trans hc2
      have d3 := (hb.out.cell (p := ⟨b, off + j * 6 + 3, none⟩) hblt).trans hc3
      have d4 := (hb.out.cell (p := ⟨b, off + j * 6 + 4, none⟩) hblt).trans hc4
      have d5 := (hb.out.cell (p := ⟨b, off + j * 6 + 5, none⟩) hblt).trans hc5
      have hx1 := Blk.new wr 42 #[.int .i64 y0, .int .i64 y1, .string y2, .int .u64 y3, .bool y4, .bool y5]
      have hb2 := hb.out.alloc hb.out.size (.cells #[.int .i64 y0, .int .i64 y1, .string y2, .int .u64 y3, .bool y4, .bool y5] 42)
      have HLK := Lib.hid hlk
      have HW1 := Lib.hid (fun w1 ht => HWE.out ⟨y0, y1, y2, y3, y4, y5⟩ w1 hnmj ht)
      obtain ⟨g, hg⟩ : ∃ g, g = wr.heap.size := ⟨_, rfl⟩
      have hgl : w0.heap.size ≤ g := by rw [hg]; exact hb.out.size
      clear hc0 hc1 hc2 hc3 hc4 hc5 hx hnmj hlk
      go_upto_region 6 with fail
      rw [← hg] at hx1 ⊢
      generalize (wr.alloc (.cells #[.int .i64 y0, .int .i64 y1, .string y2, .int .u64 y3, .bool y4, .bool y5] 42)) = w2 at hx1 hb2 ⊢
      have k0 := HK.out.below hb2 HK.out.lt
      have z0 : w2.cell? ⟨w.heap.size, 0, none⟩ = some (.slice (some ⟨b, off, none⟩) n cap) := (k0.cell 0).trans rfl
      have HK0 := Lib.hid k0
      have HX1 := Lib.hid hx1
      have HB2 := Lib.hid hb2
      have hgl2 : g < w2.heap.size := hx1.lt
      have hjc : j ≤ cap := by omega
      have hx0 : w2.cell? ⟨g, 0, none⟩ = some (.int .i64 y0) := (hx1.cell 0).trans rfl
      have hx11 : w2.cell? ⟨g, 1, none⟩ = some (.int .i64 y1) := (hx1.cell 1).trans rfl
      clear d0 d1 d2 d3 d4 d5 hb hg k0 hx1 hb2
      go_upto_region 7 with fail
      have hbt := (Below.refl w2.heap.size w2).alloc (Nat.le_refl _) (.cells #[.slice (some ⟨b, off, none⟩) j cap, .int .i64 0, .int .i64 0, .int .u64 0] 28)
      have ht1 := Blk.new w2 28 #[.slice (some ⟨b, off, none⟩) j cap, .int .i64 0, .int .i64 0, .int .u64 0]
      clear z0 hx0 hx11
      generalize (w2.alloc (.cells #[.slice (some ⟨b, off, none⟩) j cap, .int .i64 0, .int .i64 0, .int .u64 0] 28)) = w3 at hbt ht1 ⊢
      have kx := HX1.out.below hbt HX1.out.lt
      have k0 := HK0.out.below hbt HK0.out.lt
      have hb3 := HB2.out.trans (hbt.mono HB2.out.size)
      have e0 : w3.cell? ⟨w2.heap.size, 0, none⟩ = some (.slice (some ⟨b, off, none⟩) j cap) := (ht1.cell 0).trans rfl
      have e1 : w3.cell? ⟨w2.heap.size, 1, none⟩ = some (.int .i64 0) := (ht1.cell 1).trans rfl
      have e2 : w3.cell? ⟨w2.heap.size, 2, none⟩ = some (.int .i64 0) := (ht1.cell 2).trans rfl
      have e3 : w3.cell? ⟨w2.heap.size, 3, none⟩ = some (.int .u64 0) := (ht1.cell 3).trans rfl
      have x1 : w3.cell? ⟨g, 1, none⟩ = some (.int .i64 y1) := (kx.cell 1).trans rfl
      have HK3 := Lib.hid k0
      have HX3 := Lib.hid kx
      have HB3 := Lib.hid hb3
      clear HX1 HK0 HB2 hbt ht1 kx k0 hb3
      have hfc := HFJ.out j y1 w3 (by omega) ((HR.out.below HB3.out).take j)
      obtain ⟨⟨q, ob⟩, hfe⟩ : ∃ q, findN (l.take j) y1 = q := ⟨_, rfl⟩
      have HLQ := Lib.hid (show linkB l j = (wellB ⟨y0, y1, y2, y3, y4, y5⟩ && (if j = 0 then firstB ⟨y0, y1, y2, y3, y4, y5⟩ else (ob && decide ((l.getD (j - 1) zN).id < y0)))) by rw [HLK.out, hfe])
      rw [hfe] at hfc
      obtain ⟨q0, q1, q2, q3, q4, q5⟩ := q
      unfold valN at hfc
      dsimp only at hfc
      have HFC := Lib.hid hfc
      clear hfc hfe HLK
      go_wp2_with fail
      refine HFC.out.mono ?_
      rintro e w4 ⟨rfl, hb4⟩
      have hb5 := hb4.alloc hb4.size (.cells #[.int .i64 q0, .int .i64 q1, .string q2, .int .u64 q3, .bool q4, .bool q5] 42)
      clear e0 e1 e2 e3 x1 HFC hb4
      go_upto_region 8 with fail
      generalize (w4.alloc (.cells #[.int .i64 q0, .int .i64 q1, .string q2, .int .u64 q3, .bool q4, .bool q5] 42)) = w5 at hb5 ⊢
      have kx := HX3.out.below hb5 HX3.out.lt
      have k0 := HK3.out.below hb5 HK3.out.lt
      have hb6 := HB3.out.trans (hb5.mono HB3.out.size)
      have HK5 := Lib.hid k0
      have HX5 := Lib.hid kx
      have HB5 := Lib.hid hb6
      have x0 : w5.cell? ⟨g, 0, none⟩ = some (.int .i64 y0) := (kx.cell 0).trans rfl
      have x1 : w5.cell? ⟨g, 1, none⟩ = some (.int .i64 y1) := (kx.cell 1).trans rfl
      have x2 : w5.cell? ⟨g, 2, none⟩ = some (.string y2) := (kx.cell 2).trans rfl
      have x3 : w5.cell? ⟨g, 3, none⟩ = some (.int .u64 y3) := (kx.cell 3).trans rfl
      have x4 : w5.cell? ⟨g, 4, none⟩ = some (.bool y4) := (kx.cell 4).trans rfl
      have x5 : w5.cell? ⟨g, 5, none⟩ = some (.bool y5) := (kx.cell 5).trans rfl
      clear kx k0 hb6 hb5 HK3 HX3 HB3
      obtain ⟨F, hF⟩ : ∃ F, firstB ⟨y0, y1, y2, y3, y4, y5⟩ = F := ⟨_, rfl⟩
      have HFE := Lib.hid (show F = (decide (y0 = 1) && (decide (y1 = 0) && !y4)) by rw [← hF]; rfl)
      rw [hF] at HLQ
      obtain ⟨W, hW⟩ : ∃ W, wellB ⟨y0, y1, y2, y3, y4, y5⟩ = W := ⟨_, rfl⟩
      rw [hW] at HLQ HW1
      unfold valN at HW1
      dsimp only at HW1
      clear hF hW
      go_cut [8] (fun v8 wx => v8 = .bool F ∧ wx = w5)
      case first =>
        by_cases a1 : y0 = 1
        · by_cases a2 : y1 = 0
          · have e : F = !y4 := by rw [HFE.out, decide_eq_true a1, decide_eq_true a2, Bool.true_and, Bool.true_and]
            have HE := Lib.hid e
            clear e
            go_wp2_with fail
            go_meet
            exact ⟨by rw [HE.out], rfl⟩
          · have e : F = false := by rw [HFE.out, decide_eq_false a2, Bool.false_and, Bool.and_false]
            have HE := Lib.hid e
            clear e
            go_wp2_with fail
            go_meet
            exact ⟨by rw [HE.out], rfl⟩
        · have e : F = false := by rw [HFE.out, decide_eq_false a1, Bool.false_and]
          have HE := Lib.hid e
          clear e
          go_wp2_with fail
          go_meet
          exact ⟨by rw [HE.out], rfl⟩
      case rest =>
        obtain ⟨rfl, rfl⟩ := hcut
        have HTW := Lib.hid (HT.out.below HB5.out)
        have hw2 := fun p : Behind wc => HW1.out p.v (HTW.out.below p.h)
        have HW2 := Lib.hid hw2
        clear hw2 HW1
        have hrow : ∀ (m : Nat) (hm : m < l.length), wc.cell? ⟨b, off + m * 6, none⟩ = some (.int .i64 l[m].id) := fun m hm =>
          (HB5.out.cell (p := ⟨b, off + m * 6, none⟩) hblt).trans (nodes_get hcell m hm).1
        have HROW := Lib.hid hrow
        have X0 := Lib.hid x0
        have X1 := Lib.hid x1
        have X2 := Lib.hid x2
        have X3 := Lib.hid x3
        have X4 := Lib.hid x4
        have X5 := Lib.hid x5
        have TC := Lib.hid (show wc.cell? ⟨w.heap.size, 0, none⟩ = some (.slice (some ⟨b, off, none⟩) n cap) from (HK5.out.cell 0).trans rfl)
        clear hrow hcell hob x0 x1 x2 x3 x4 x5
        obtain ⟨LB, hLB⟩ : ∃ LB, linkB l j = LB := ⟨_, rfl⟩
        have HLB := Lib.hid hLB
        rw [hLB] at HLQ
        clear hLB HFE HFJ HF
        go_upto_region 9 with fail
        go_cut [84] (fun v84 wx => v84 = .bool (!LB) ∧ Hid (Below wc.heap.size wc wx))
        case first =>
          have f0 := fun p : Behind wc => p.cell X0.out
          have f1 := fun p : Behind wc => p.cell X1.out
          have f2 := fun p : Behind wc => p.cell X2.out
          have f3 := fun p : Behind wc => p.cell X3.out
          have f4 := fun p : Behind wc => p.cell X4.out
          have f5 := fun p : Behind wc => p.cell X5.out
          have ft := fun p : Behind wc => p.cell TC.out
          cases W with
          | false =>
            have hl2 : LB = false := by rw [HLQ.out, Bool.false_and]
            have HL2 := Lib.hid hl2
            clear hl2 HLQ
            refine wp_region_behind (by kernel_rfl) (by kernel_rfl) ?_
            repeat (go_big_quiet_step (first | (go_at_call 61; exact behind_of (HW2.out _))))
            refine wpQuiet_nil ?_
            intro w6 hb6
            clear f0 f1 f2 f3 f4 f5 ft
            go_wp2
            go_meet
            exact ⟨by rw [HL2.out]; rfl, Lib.hid hb6⟩
          | true =>
            by_cases h0 : j = 0
            · have hl2 : LB = F := by rw [HLQ.out, Bool.true_and, if_pos h0]
              have HL2 := Lib.hid hl2
              clear hl2 HLQ HROW
              subst h0
              cases F with
              | false =>
                refine wp_region_behind (by kernel_rfl) (by kernel_rfl) ?_
                repeat (go_big_quiet_step (first | (go_at_call 61; exact behind_of (HW2.out _))))
                refine wpQuiet_nil ?_
                intro w6 hb6
                clear f0 f1 f2 f3 f4 f5 ft
                go_wp2
                go_meet
                exact ⟨by rw [HL2.out]; rfl, Lib.hid hb6⟩
              | true =>
                refine wp_region_behind (by kernel_rfl) (by kernel_rfl) ?_
                repeat (go_big_quiet_step (first | (go_at_call 61; exact behind_of (HW2.out _))))
                refine wpQuiet_nil ?_
                intro w6 hb6
                clear f0 f1 f2 f3 f4 f5 ft
                go_wp2
                go_meet
                exact ⟨by rw [HL2.out]; rfl, Lib.hid hb6⟩
            · obtain ⟨m, rfl⟩ : ∃ m, j = m + 1 := ⟨j - 1, by omega⟩
              have hml : m < l.length := by omega
              have hmn : m < n := by omega
              have hw : IntKind.i64.wrap ((m : Int) + 1 - 1) = (m : Int) := by rw [IntKind.wrap_i64] <;> omega
              have hl2 : LB = (ob && decide (l[m].id < y0)) := by rw [HLQ.out, Bool.true_and, if_neg h0, Nat.add_sub_cancel, getD_get hml]
              have hrm := HROW.out m hml
              obtain ⟨pid, hpid⟩ : ∃ pid, l[m].id = pid := ⟨_, rfl⟩
              rw [hpid] at hl2 hrm
              have HRM := Lib.hid hrm
              have HL2 := Lib.hid hl2
              have fr := fun p : Behind wc => p.cell HRM.out
              have hk1 : decide (0 < m + 1) = true := decide_eq_true (by omega)
              have hk2 : (((m + 1 : Nat) : Int) == 0) = false := by rw [beq_eq_false_iff_ne]; omega
              have hk3 : (((m : Int) + 1) == 0) = false := by rw [beq_eq_false_iff_ne]; omega
              clear hl2 hrm HLQ HROW hml hpid h0
              cases ob with
              | false =>
                refine wp_region_behind (by kernel_rfl) (by kernel_rfl) ?_
                repeat (go_big_quiet_step (first | (go_at_call 61; exact behind_of (HW2.out _))))
                refine wpQuiet_nil ?_
                intro w6 hb6
                clear f0 f1 f2 f3 f4 f5 ft fr
                go_wp2
                go_meet
                exact ⟨by rw [HL2.out]; rfl, Lib.hid hb6⟩
              | true =>
                by_cases hle : y0 ≤ pid
                · have hl3 : LB = false := by rw [HL2.out, decide_eq_false (by omega)]; rfl
                  have HL3 := Lib.hid hl3
                  clear hl3
                  refine wp_region_behind (by kernel_rfl) (by kernel_rfl) ?_
                  repeat (go_big_quiet_step (first | (go_at_call 61; exact behind_of (HW2.out _))))
                  refine wpQuiet_nil ?_
                  intro w6 hb6
                  clear f0 f1 f2 f3 f4 f5 ft fr
                  go_wp2
                  go_meet
                  exact ⟨by rw [HL3.out]; rfl, Lib.hid hb6⟩
                · have hl3 : LB = true := by rw [HL2.out, decide_eq_true (by omega)]; rfl
                  have HL3 := Lib.hid hl3
                  clear hl3
                  refine wp_region_behind (by kernel_rfl) (by kernel_rfl) ?_
                  repeat (go_big_quiet_step (first | (go_at_call 61; exact behind_of (HW2.out _))))
                  refine wpQuiet_nil ?_
                  intro w6 hb6
                  clear f0 f1 f2 f3 f4 f5 ft fr
                  go_wp2
                  go_meet
                  exact ⟨by rw [HL3.out]; rfl, Lib.hid hb6⟩
        case rest =>
          obtain ⟨rfl, hbc⟩ := hcut
          cases LB with
          | false =>
            have hno := rightL_no (by rw [HN.out]; exact hlt) HLB.out
            have hR := HRR.out
            rw [hno, Bool.false_and] at hR
            subst hR
            have HBE := Lib.hid (HB.out.trans ((HB5.out.trans (hbc.out.mono HB5.out.size)).mono HB.out.size))
            go_wp2_with fail
            go_ret
            exact ⟨rfl, HBE.out⟩
          | true =>
            go_wp2_with fail
            go_roundw
            case rel =>
              refine ⟨j + 1, by omega, by go_num, Lib.hid (fun i hi => ?_), Lib.hid (HB5.out.trans (hbc.out.mono HB5.out.size))⟩
              by_cases e : i = j
              · subst e; exact HLB.out
              · exact hp.out i (by omega)
            case measure => simp [intOf]; omega
    · obtain rfl : j = n := by omega
      have hyes := rightL_yes (l := l) (fun i hi => hp.out i (by rw [← HN.out]; exact hi))
      have hR := HRR.out
      rw [hyes, Bool.true_and] at hR
      have k0 := HK.out.below hb.out HK.out.lt
      have t0 : wr.cell? ⟨w.heap.size, 0, none⟩ = some (.slice A j cap) := (k0.cell 0).trans rfl
      have t1 : wr.cell? ⟨w.heap.size, 1, none⟩ = some (.int .i64 lv) := (k0.cell 1).trans rfl
      have t2 : wr.cell? ⟨w.heap.size, 2, none⟩ = some (.int .i64 nx) := (k0.cell 2).trans rfl
      have t3 : wr.cell? ⟨w.heap.size, 3, none⟩ = some (.int .u64 nw) := (k0.cell 3).trans rfl
      have HK0 := Lib.hid k0
      obtain ⟨⟨q, ob⟩, hfe⟩ : ∃ q, findN l lv = q := ⟨_, rfl⟩
      have hfc := HF.out lv wr (HR.out.below hb.out)
      rw [hfe] at hfc hR
      obtain ⟨q0, q1, q2, q3, q4, q5⟩ := q
      unfold valN at hfc
      dsimp only at hfc hR
      have HFC := Lib.hid hfc
      have HRR2 := Lib.hid hR
      clear hfc hfe hR HRR HF HFJ hyes k0 hp
      go_wp2_with fail
      refine HFC.out.mono ?_
      rintro e w4 ⟨rfl, hb4⟩
      have hb5 := hb4.alloc hb4.size (.cells #[.int .i64 q0, .int .i64 q1, .string q2, .int .u64 q3, .bool q4, .bool q5] 42)
      clear t0 t1 t2 t3 HFC hb4
      go_upto_region 13 with fail
      generalize (w4.alloc (.cells #[.int .i64 q0, .int .i64 q1, .string q2, .int .u64 q3, .bool q4, .bool q5] 42)) = w5 at hb5 ⊢
      have k0 := HK0.out.below hb5 HK0.out.lt
      have hb6 := hb.out.trans (hb5.mono hb.out.size)
      have t0 : w5.cell? ⟨w.heap.size, 0, none⟩ = some (.slice A j cap) := (k0.cell 0).trans rfl
      have t2 : w5.cell? ⟨w.heap.size, 2, none⟩ = some (.int .i64 nx) := (k0.cell 2).trans rfl
      obtain ⟨m, rfl⟩ : ∃ m, j = m + 1 := ⟨j - 1, by omega⟩
      have hml : m < l.length := by rw [HN.out]; omega
      obtain ⟨b, off, rfl, ⟨cs, fr, hob⟩, hcell⟩ := HR.out (by rw [HN.out]; omega)
      have hrm := (hb6.cell (p := ⟨b, off + m * 6, none⟩) (obj_lt hob)).trans (nodes_get hcell m hml).1
      have HL : Hid (R = (ob && (decide (l[m].id < nx) && decide (nx ≤ 2147483647)))) := Lib.hid (by rw [HRR2.out, Nat.add_sub_cancel, getD_get hml])
      obtain ⟨pid, hpid⟩ : ∃ pid, l[m].id = pid := ⟨_, rfl⟩
      rw [hpid] at HL hrm
      have hw : IntKind.i64.wrap ((m : Int) + 1 - 1) = (m : Int) := by rw [IntKind.wrap_i64] <;> omega
      have HBE := Lib.hid (HB.out.trans (hb6.mono HB.out.size))
      have ft0 := fun p : Behind w5 => p.cell t0
      have ft2 := fun p : Behind w5 => p.cell t2
      have fr0 := fun p : Behind w5 => p.cell hrm
      clear hpid hcell hob hb5 hb6 k0 HK0 HRR2 hb t0 t2 hrm
      cases ob with
      | false =>
        refine wp_region_behind (by kernel_rfl) (by kernel_rfl) ?_
        repeat (go_big_quiet_step (fail))
        refine wpQuiet_nil ?_
        intro w6 hb6
        have HB6 := Lib.hid (HBE.out.trans (hb6.mono HBE.out.size))
        clear ft0 ft2 fr0
        go_wp2
        go_ret
        exact ⟨ret_bool (by rw [HL.out]; rfl), HB6.out⟩
      | true =>
        by_cases c1 : pid < nx
        · by_cases c2 : nx ≤ 2147483647
          · have e : R = true := by rw [HL.out, decide_eq_true c1, decide_eq_true c2]; rfl
            have HE := Lib.hid e
            clear e
            refine wp_region_behind (by kernel_rfl) (by kernel_rfl) ?_
            repeat (go_big_quiet_step (fail))
            refine wpQuiet_nil ?_
            intro w6 hb6
            have HB6 := Lib.hid (HBE.out.trans (hb6.mono HBE.out.size))
            clear ft0 ft2 fr0
            go_wp2
            go_ret
            exact ⟨ret_bool (by rw [HE.out]), HB6.out⟩
          · have e : R = false := by rw [HL.out, decide_eq_false c2, Bool.and_false, Bool.and_false]
            have HE := Lib.hid e
            clear e
            refine wp_region_behind (by kernel_rfl) (by kernel_rfl) ?_
            repeat (go_big_quiet_step (fail))
            refine wpQuiet_nil ?_
            intro w6 hb6
            have HB6 := Lib.hid (HBE.out.trans (hb6.mono HBE.out.size))
            clear ft0 ft2 fr0
            go_wp2
            go_ret
            exact ⟨ret_bool (by rw [HE.out]), HB6.out⟩
        · have e : R = false := by rw [HL.out, decide_eq_false c1, Bool.false_and, Bool.and_false]
          have HE := Lib.hid e
          clear e
          refine wp_region_behind (by kernel_rfl) (by kernel_rfl) ?_
          repeat (go_big_quiet_step (fail))
          refine wpQuiet_nil ?_
          intro w6 hb6
          have HB6 := Lib.hid (HBE.out.trans (hb6.mono HBE.out.size))
          clear ft0 ft2 fr0
          go_wp2
          go_ret
          exact ⟨ret_bool (by rw [HE.out]), HB6.out⟩
end Go.Proofs.YtfdhehjfbcddgaaDoor.Pr
