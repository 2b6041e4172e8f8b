/- (*planner).shorten: does the first thing that makes ghosts fewer, or a run shorter. Conditions: the tree's nodes are not more than a million, nor is any name longer; so many steps and merges as fit. -/
import Derived.Test.YtfdhehjfbcddgaaDoorTRevert
namespace Go.Proofs.YtfdhehjfbcddgaaDoor.Pr
open Go.RowKit Go.Proofs.YtfdhehjfbcddgaaDoorW.PrintWords Go.Proofs.YtfdhehjfbcddgaaDoorW.PrintLast Go.Proofs.YtfdhehjfbcddgaaDoor
set_option linter.unusedVariables false
/-- the load of a plan's merges (named, so that the walk of the region that draws takes it as it comes) -/
def ldM2 : Op := .load 30 (.tmp 72)
attribute [local go_sem] ldM2
theorem short_on (s : Ps) (bound : Int) (x : Nd) (l : List Nd) : shortN s bound (x :: l) = if x.ghost = false then shortN s bound l
    else if (kidsN s.t.l s.t.lv x.id).length = 0 then (doN s (st3 3 x.id 0), true)
    else if (kidsN s.t.l s.t.lv x.id).length = 1 then (downN s x ((kidsN s.t.l s.t.lv x.id).getD 0 0), true)
    else if bound < (depthN s.t.l x.id : Int) then (doN ⟨s.t, s.ms ++ [⟨x.id, (findN s.t.l x.par).1.id⟩], s.ss⟩ (st3 4 x.id (findN s.t.l x.par).1.par), true)
    else shortN s bound l := rfl
set_option maxRecDepth 100000 in
set_option maxHeartbeats 16000000 in
theorem short_ps (we : World) (hT : Tabs we) (b : Nat) (s : Ps) (bound : Int) (w : World) (hE : Below we.heap.size we w) (hp : PsAt w we.heap.size b s) (hS : SmallT s.t) (hss : s.ss.length ≤ 1099511627775) (hms : s.ms.length ≤ 1099511627776) :
    Calls Tryd.prog 62 #[.pointer (some ⟨b, 0, none⟩), .int .i64 bound] w fun e w' => e = .returned (.bool (shortN s bound s.t.l).2) ∧ PsAt w' we.heap.size b (shortN s bound s.t.l).1 ∧ Below we.heap.size we w' ∧ KeepT w w' := by
  obtain ⟨⟨l, lv, nx, nw⟩, ms, ss⟩ := s
  have hpp := hp
  obtain ⟨A, cap, MA, mc, SA, sc, hk, hc, hn, hm, hs, hB⟩ := hp
  dsimp only at hS hss hms hk hc hn hm hs ⊢
  have hl : l.length ≤ 1000000 := hS.1
  have hkids := fun (a : Int) (w1 : World) (h1 : NodesAt w1 A l) => kids_any A cap l lv nx nw a w1 hl h1
  have hdep := fun (a : Int) (w1 : World) (h1 : NodesAt w1 A l) => depth_any A cap l lv nx nw a w1 hl h1
  have hfind := fun (a : Int) (w1 : World) (h1 : NodesAt w1 A l) => find_any A cap l lv nx nw a w1 hl h1
  obtain ⟨n, hnn⟩ : ∃ n, l.length = n := ⟨_, rfl⟩
  obtain ⟨km, hkm⟩ : ∃ km, ms.length = km := ⟨_, rfl⟩
  obtain ⟨ks, hks⟩ : ∃ ks, ss.length = ks := ⟨_, rfl⟩
  obtain ⟨D, hD⟩ : ∃ D, shortN ⟨⟨l, lv, nx, nw⟩, ms, ss⟩ bound l = D := ⟨_, rfl⟩
  rw [hD]
  have HD0 := Lib.hid (show D = shortN ⟨⟨l, lv, nx, nw⟩, ms, ss⟩ bound (l.drop 0) by rw [← hD]; rfl)
  rw [hnn, hkm, hks] at hk
  rw [hnn] at hc hl hkids hdep hfind
  rw [hkm] at hm hms
  rw [hks] at hs hss
  have hblt : b < w.heap.size := hk.lt
  have p0 : w.cell? ⟨b, 0, none⟩ = some (.slice A n cap) := (hk.cell 0).trans rfl
  have HK := Lib.hid hk
  have HN := Lib.hid hn
  have HM := Lib.hid hm
  have HS := Lib.hid hs
  have HSM := Lib.hid hS
  have HKI := Lib.hid hkids
  have HDE := Lib.hid hdep
  have HF := Lib.hid hfind
  have HNN := Lib.hid hnn
  have HKM := Lib.hid hkm
  have HKS := Lib.hid hks
  have HE := Lib.hid hE
  have HPP := Lib.hid hpp
  have HTT := Lib.hid hT
  have HC := Lib.hid hc
  clear hk hc hn hm hs hS hkids hdep hfind hnn hkm hks hE hpp hT hD
  go_enter Tryd.func62, Tryd.ntmps62
  go_wp2_with fail
  go_loopw [16] (fun v16 wr => ∃ (j : Nat), j ≤ n ∧ v16 = .int .i64 (j : Int) ∧ Hid (D = shortN ⟨⟨l, lv, nx, nw⟩, ms, ss⟩ bound (l.drop j)) ∧ Hid (Below w.heap.size w wr)) (fun v16 _ => n - (intOf v16).toNat)
  case atStart => exact ⟨0, by omega, rfl, HD0, Lib.hid (Below.refl _ _)⟩
  case round =>
    clear p0 HD0
    obtain ⟨j, hj, rfl, hd, hb⟩ := hrel
    by_cases hlt : j < n
    · have hjl : j < l.length := by rw [HNN.out]; exact hlt
      obtain ⟨b2, off, rfl, ⟨cs, fr, hob⟩, hcell⟩ := HN.out (by omega)
      have hblt2 := obj_lt hob
      obtain ⟨hc0, hc1, hc2, hc3, hc4, hc5⟩ := nodes_get hcell j hjl
      have hds := hd.out
      rw [List.drop_eq_getElem_cons hjl, short_on] at hds
      obtain ⟨x, hx⟩ : ∃ x, l[j]'hjl = x := ⟨_, rfl⟩
      rw [hx] at hc0 hc1 hc2 hc3 hc4 hc5 hds
      obtain ⟨x0, x1, x2, x3, x4, x5⟩ := x
      dsimp only at hc0 hc1 hc2 hc3 hc4 hc5 hds
      have d0 := (hb.out.cell (p := ⟨b2, off + j * 6, none⟩) hblt2).trans hc0
      have d1 := (hb.out.cell (p := ⟨b2, off + j * 6 + 1, none⟩) hblt2).trans hc1
      have d2 := (hb.out.cell (p := ⟨b2, off + j * 6 + 2, none⟩) hblt2).trans hc2
      have d3 := (hb.out.cell (p := ⟨b2, off + j * 6 + 3, none⟩) hblt2).trans hc3
      have d4 := (hb.out.cell (p := ⟨b2, off + j * 6 + 4, none⟩) hblt2).trans hc4
      have d5 := (hb.out.cell (p := ⟨b2, off + j * 6 + 5, none⟩) hblt2).trans hc5
      have hb2 := hb.out.alloc hb.out.size (.cells #[.int .i64 x0, .int .i64 x1, .string x2, .int .u64 x3, .bool x4, .bool x5] 42)
      have hx1 := Blk.new wr 42 #[.int .i64 x0, .int .i64 x1, .string x2, .int .u64 x3, .bool x4, .bool x5]
      obtain ⟨g, hg⟩ : ∃ g, g = wr.heap.size := ⟨_, rfl⟩
      have hgl : w.heap.size ≤ g := by rw [hg]; exact hb.out.size
      have HG := Lib.hid hg
      have HDS := Lib.hid hds
      clear hcell hc0 hc1 hc2 hc3 hc4 hc5 hx hob hb hds hd hg
      go_upto_region 4 with fail
      rw [← HG.out] at hx1 ⊢
      generalize (wr.alloc (.cells #[.int .i64 x0, .int .i64 x1, .string x2, .int .u64 x3, .bool x4, .bool x5] 42)) = w2 at hb2 hx1 ⊢
      have HB2 := Lib.hid hb2
      have HX2 := Lib.hid hx1
      have e4 : w2.cell? ⟨g, 4, none⟩ = some (.bool x4) := (hx1.cell 4).trans rfl
      clear d0 d1 d2 d3 d4 d5 hb2 hx1
      cases x4 with
      | false =>
        have HNX := Lib.hid (show D = shortN ⟨⟨l, lv, nx, nw⟩, ms, ss⟩ bound (l.drop (j + 1)) by rw [HDS.out]; simp)
        clear HDS
        go_wp2_with fail
        go_roundw
        case rel => exact ⟨j + 1, by omega, by go_num, HNX, HB2⟩
        case measure => simp [intOf]; omega
      | true =>
        obtain ⟨kn, hkn⟩ : ∃ kn, kidsN l lv x0 = kn := ⟨_, rfl⟩
        obtain ⟨kl, hkl⟩ : ∃ kl, kn.length = kl := ⟨_, rfl⟩
        obtain ⟨dp, hdp⟩ : ∃ dp, depthN l x0 = dp := ⟨_, rfl⟩
        obtain ⟨⟨y, oy⟩, hfy⟩ : ∃ q, findN l x1 = q := ⟨_, rfl⟩
        have hki := HKI.out x0
        have hdc := HDE.out x0
        have hfc := HF.out x1
        obtain ⟨y0, y1, y2, y3, y4, y5⟩ := y
        rw [hkn, hkl] at hki
        rw [hdp] at hdc
        rw [hfy] at hfc
        unfold valN at hfc
        dsimp only at hfc
        have HDT := Lib.hid (show D = if kl = 0 then (doN ⟨⟨l, lv, nx, nw⟩, ms, ss⟩ (st3 3 x0 0), true)
          else if kl = 1 then (downN ⟨⟨l, lv, nx, nw⟩, ms, ss⟩ ⟨x0, x1, x2, x3, true, x5⟩ (kn.getD 0 0), true)
          else if bound < (dp : Int) then (doN ⟨⟨l, lv, nx, nw⟩, ms ++ [⟨x0, y0⟩], ss⟩ (st3 4 x0 y1), true)
          else shortN ⟨⟨l, lv, nx, nw⟩, ms, ss⟩ bound (l.drop (j + 1)) by rw [HDS.out, hkn, hkl, hdp, hfy]; simp)
        have HKL := Lib.hid hkl
        have HKC := Lib.hid hki
        have HDC := Lib.hid hdc
        have HFC := Lib.hid hfc
        have hk2 := HK.out.below HB2.out HK.out.lt
        have hx2 := HX2.out
        have lb : b < w2.heap.size := hk2.lt
        have lg : g < w2.heap.size := hx2.lt
        have p0 : w2.cell? ⟨b, 0, none⟩ = some (.slice (some ⟨b2, off, none⟩) n cap) := (hk2.cell 0).trans rfl
        have p1 : w2.cell? ⟨b, 1, none⟩ = some (.int .i64 lv) := (hk2.cell 1).trans rfl
        have p2 : w2.cell? ⟨b, 2, none⟩ = some (.int .i64 nx) := (hk2.cell 2).trans rfl
        have p3 : w2.cell? ⟨b, 3, none⟩ = some (.int .u64 nw) := (hk2.cell 3).trans rfl
        have e0 : w2.cell? ⟨g, 0, none⟩ = some (.int .i64 x0) := (hx2.cell 0).trans rfl
        clear hkn hkl hdp hfy hki hdc hfc HDS hk2 hx2
        have hkeep : ∀ w', Below w2.heap.size w2 w' → w'.cell? ⟨b, 0, none⟩ = some (.slice (some ⟨b2, off, none⟩) n cap) ∧ w'.cell? ⟨b, 1, none⟩ = some (.int .i64 lv) ∧ w'.cell? ⟨b, 2, none⟩ = some (.int .i64 nx) ∧ w'.cell? ⟨b, 3, none⟩ = some (.int .u64 nw) ∧ w'.cell? ⟨g, 0, none⟩ = some (.int .i64 x0) := fun w' hb => ⟨(hb.cell (p := ⟨b, 0, none⟩) lb).trans p0, (hb.cell (p := ⟨b, 1, none⟩) lb).trans p1, (hb.cell (p := ⟨b, 2, none⟩) lb).trans p2, (hb.cell (p := ⟨b, 3, none⟩) lb).trans p3, (hb.cell (p := ⟨g, 0, none⟩) lg).trans e0⟩
        have HKP := Lib.hid hkeep
        clear hkeep
        go_upto_region 5 with fail
        go_cut [7] from 17 to 90 (fun v7 wx => ∃ (A7 : Option Addr) (c7 : Nat), v7 = .slice A7 kl c7 ∧ Hid (wx.ownsRow w2.heap.size 3 1 (.slice A7 kl c7) kl (nums .i64 kn)) ∧ Hid (Below w2.heap.size w2 wx))
        case first =>
          go_region_held3 (fun w' => w'.cell? ⟨b, 0, none⟩ = some (.slice (some ⟨b2, off, none⟩) n cap) ∧ w'.cell? ⟨b, 1, none⟩ = some (.int .i64 lv) ∧ w'.cell? ⟨b, 2, none⟩ = some (.int .i64 nx) ∧ w'.cell? ⟨b, 3, none⟩ = some (.int .u64 nw) ∧ w'.cell? ⟨g, 0, none⟩ = some (.int .i64 x0))
            (first | with_reducible exact HKP.out _ (below_drew1 (Below.refl _ _)) | with_reducible exact HKP.out _ hbl5 | fail)
            (first
              | (go_at_call 30; refine (HKC.out _ ?_).mono ?_; (exact (HN.out.below HB2.out).below (below_drew1 (Below.refl _ _))); (rintro e w5 ⟨v5, rfl, ho5, hb5⟩; obtain ⟨A5, c5, rfl⟩ := own_formT ho5; have hbl5 : Below w2.heap.size w2 w5 := (below_drew1 (Below.refl _ _)).trans hb5; have HO5 := Lib.hid ho5; clear hb5 ho5))
              | fail)
          all_goals (go_wp2_with fail; go_meet)
          all_goals exact ⟨_, _, rfl, HO5, Lib.hid hbl5⟩
        case rest =>
          obtain ⟨A7, c7, rfl, HO7, HB7⟩ := hcut
          have hbw := HB2.out.trans (HB7.out.mono HB2.out.size)
          have hxw := HX2.out.below HB7.out HX2.out.lt
          have hpw := HPP.out.below hbw
          have hEw := HE.out.trans (hbw.mono HE.out.size)
          have HBW := Lib.hid hbw
          have HXW := Lib.hid hxw
          have HPW := Lib.hid hpw
          have HEW := Lib.hid hEw
          have HKW := Lib.hid (KeepT.of_below hbw)
          have e0 : wc.cell? ⟨g, 0, none⟩ = some (.int .i64 x0) := (hxw.cell 0).trans rfl
          clear p0 p1 p2 p3 hbw hxw hpw hEw HKP HKC e4
          by_cases k0 : kl = 0
          · subst k0
            have HSH := Lib.hid (show D = (doN ⟨⟨l, lv, nx, nw⟩, ms, ss⟩ (st3 3 x0 0), true) by rw [HDT.out]; simp)
            have HCALL := Lib.hid (do_ps we HTT.out b ⟨⟨l, lv, nx, nw⟩, ms, ss⟩ 3 x0 0 wc HEW.out HPW.out HSM.out (by show ss.length ≤ _; rw [HKS.out]; omega))
            clear HDT HDC HFC HO7
            go_wp2_with fail
            refine HCALL.out.mono ?_
            rintro e w7 ⟨rfl, hp7, hE7, hk7⟩
            clear e0
            have HP7 := Lib.hid hp7
            have HE7 := Lib.hid hE7
            have HK7 := Lib.hid (HKW.out.trans hk7)
            clear hp7 hE7 hk7
            go_wp2_with fail
            go_ret
            exact ⟨congrArg (fun q => Ending.returned (.bool q)) (congrArg Prod.snd HSH.out).symm, by rw [HSH.out]; exact HP7.out, HE7.out, HK7.out⟩
          by_cases k1 : kl = 1
          · subst k1
            obtain ⟨kid, hkid⟩ : ∃ kid, kn = [kid] := by
              have hkm := HKL.out
              match kn, hkm with
              | [k], _ => exact ⟨k, rfl⟩
            subst hkid
            have HSH := Lib.hid (show D = (downN ⟨⟨l, lv, nx, nw⟩, ms, ss⟩ ⟨x0, x1, x2, x3, true, x5⟩ kid, true) by rw [HDT.out]; simp)
            obtain ⟨g4, cg4, e4', hg4⟩ := own_formS (n := 0) HO7.out
            injection e4' with e1' e2' e3'
            subst e1' e3'
            clear e2'
            have hblk : ∃ cs, wc.heap[g4]? = some (.cells cs 3 (0, 0)) := by
              rcases HO7.out.2 with ⟨h1, _⟩ | ⟨g', c', cur, he, _, hh, _⟩
              · cases h1
              · injection he with he1 _ _
                injection he1 with he1
                injection he1 with he1
                subst he1
                exact ⟨cur, hh⟩
            obtain ⟨cs4, hb4k⟩ := hblk
            have r0 : wc.cell? ⟨g4, 0, none⟩ = some (.int .i64 kid) := (HO7.out.cellAt 0 (by decide)).trans rfl
            have hx4 := HXW.out
            clear e0
            have e0 : wc.cell? ⟨g, 0, none⟩ = some (.int .i64 x0) := (hx4.cell 0).trans rfl
            have e1 : wc.cell? ⟨g, 1, none⟩ = some (.int .i64 x1) := (hx4.cell 1).trans rfl
            have e2 : wc.cell? ⟨g, 2, none⟩ = some (.string x2) := (hx4.cell 2).trans rfl
            have e3 : wc.cell? ⟨g, 3, none⟩ = some (.int .u64 x3) := (hx4.cell 3).trans rfl
            have e4 : wc.cell? ⟨g, 4, none⟩ = some (.bool true) := (hx4.cell 4).trans rfl
            have e5 : wc.cell? ⟨g, 5, none⟩ = some (.bool x5) := (hx4.cell 5).trans rfl
            have HBK := Lib.hid hb4k
            have hcall := down_ps we HTT.out b ⟨⟨l, lv, nx, nw⟩, ms, ss⟩ ⟨x0, x1, x2, x3, true, x5⟩ kid wc.drew (below_drew1 HEW.out) (HPW.out.below (below_drew1 (Below.refl _ _))) HSM.out (by show ss.length ≤ _; rw [HKS.out]; omega) (by show ms.length ≤ _; rw [HKM.out]; omega)
            unfold valN at hcall
            dsimp only at hcall
            have HCALL := Lib.hid hcall
            clear hcall hx4 hb4k HDT HDC HFC
            go_upto_region 9 with fail
            have hkeep : ∀ w' : World, w'.heap[g]? = wc.heap[g]? → w'.heap[g4]? = wc.heap[g4]? → w'.cell? ⟨g, 0, none⟩ = some (.int .i64 x0) ∧ w'.cell? ⟨g, 1, none⟩ = some (.int .i64 x1) ∧ w'.cell? ⟨g, 2, none⟩ = some (.string x2) ∧ w'.cell? ⟨g, 3, none⟩ = some (.int .u64 x3) ∧ w'.cell? ⟨g, 4, none⟩ = some (.bool true) ∧ w'.cell? ⟨g, 5, none⟩ = some (.bool x5) ∧ w'.cell? ⟨g4, 0, none⟩ = some (.int .i64 kid) := fun w' h1 h2 =>
              ⟨(World.cell?_of_block (a := ⟨g, 0, none⟩) h1).trans e0, (World.cell?_of_block (a := ⟨g, 1, none⟩) h1).trans e1, (World.cell?_of_block (a := ⟨g, 2, none⟩) h1).trans e2, (World.cell?_of_block (a := ⟨g, 3, none⟩) h1).trans e3, (World.cell?_of_block (a := ⟨g, 4, none⟩) h1).trans e4, (World.cell?_of_block (a := ⟨g, 5, none⟩) h1).trans e5, (World.cell?_of_block (a := ⟨g4, 0, none⟩) h2).trans r0⟩
            have HKP := Lib.hid hkeep
            have KPD := Lib.hid (hkeep wc.drew rfl rfl)
            clear hkeep
            go_region_held3 (fun w' => w'.cell? ⟨g, 0, none⟩ = some (.int .i64 x0) ∧ w'.cell? ⟨g, 1, none⟩ = some (.int .i64 x1) ∧ w'.cell? ⟨g, 2, none⟩ = some (.string x2) ∧ w'.cell? ⟨g, 3, none⟩ = some (.int .u64 x3) ∧ w'.cell? ⟨g, 4, none⟩ = some (.bool true) ∧ w'.cell? ⟨g, 5, none⟩ = some (.bool x5) ∧ w'.cell? ⟨g4, 0, none⟩ = some (.int .i64 kid))
              (first | with_reducible exact KPD.out | with_reducible exact HKP.out _ hka hkb | fail)
              (first
                | (go_at_call 47; refine HCALL.out.mono ?_; (rintro e w7 ⟨rfl, hp7, hE7, hk7⟩; have hka : w7.heap[g]? = wc.heap[g]? := (hk7.2 g _ _ _ HXW.out (by decide) (by decide) (by decide)); have hkb : w7.heap[g4]? = wc.heap[g4]? := (hk7.2 g4 _ _ _ HBK.out (by decide) (by decide) (by decide))))
                | fail)
            clear e0 e1 e2 e3 e4 e5 r0 hka hkb HKP KPD HCALL
            have hk7 : KeepT wc w7 := hk7
            have HP7 := Lib.hid hp7
            have HE7 := Lib.hid hE7
            have HK7 := Lib.hid (HKW.out.trans hk7)
            clear hp7 hE7 hk7
            go_wp2_with fail
            go_ret
            exact ⟨congrArg (fun q => Ending.returned (.bool q)) (congrArg Prod.snd HSH.out).symm, by rw [HSH.out]; exact HP7.out, HE7.out, HK7.out⟩
          have HDU := Lib.hid (show D = if bound < (dp : Int) then (doN ⟨⟨l, lv, nx, nw⟩, ms ++ [⟨x0, y0⟩], ss⟩ (st3 4 x0 y1), true) else shortN ⟨⟨l, lv, nx, nw⟩, ms, ss⟩ bound (l.drop (j + 1)) by rw [HDT.out, if_neg k0, if_neg k1])
          have hkw := HK.out.below HBW.out HK.out.lt
          have lb : b < wc.heap.size := hkw.lt
          have lg : g < wc.heap.size := HXW.out.lt
          have p0 : wc.cell? ⟨b, 0, none⟩ = some (.slice (some ⟨b2, off, none⟩) n cap) := (hkw.cell 0).trans rfl
          have p1 : wc.cell? ⟨b, 1, none⟩ = some (.int .i64 lv) := (hkw.cell 1).trans rfl
          have p2 : wc.cell? ⟨b, 2, none⟩ = some (.int .i64 nx) := (hkw.cell 2).trans rfl
          have p3 : wc.cell? ⟨b, 3, none⟩ = some (.int .u64 nw) := (hkw.cell 3).trans rfl
          clear HDT HO7 hkw
          have hkeep : ∀ w', Below wc.heap.size wc w' → w'.cell? ⟨b, 0, none⟩ = some (.slice (some ⟨b2, off, none⟩) n cap) ∧ w'.cell? ⟨b, 1, none⟩ = some (.int .i64 lv) ∧ w'.cell? ⟨b, 2, none⟩ = some (.int .i64 nx) ∧ w'.cell? ⟨b, 3, none⟩ = some (.int .u64 nw) ∧ w'.cell? ⟨g, 0, none⟩ = some (.int .i64 x0) := fun w' hb => ⟨(hb.cell (p := ⟨b, 0, none⟩) lb).trans p0, (hb.cell (p := ⟨b, 1, none⟩) lb).trans p1, (hb.cell (p := ⟨b, 2, none⟩) lb).trans p2, (hb.cell (p := ⟨b, 3, none⟩) lb).trans p3, (hb.cell (p := ⟨g, 0, none⟩) lg).trans e0⟩
          have HKP := Lib.hid hkeep
          clear hkeep
          go_upto_region 10 with fail
          go_cut [48] from 17 to 90 (fun v48 wx => v48 = .bool (decide (bound < (dp : Int))) ∧ Hid (Below wc.heap.size wc wx))
          case first =>
            go_region_held3 (fun w' => w'.cell? ⟨b, 0, none⟩ = some (.slice (some ⟨b2, off, none⟩) n cap) ∧ w'.cell? ⟨b, 1, none⟩ = some (.int .i64 lv) ∧ w'.cell? ⟨b, 2, none⟩ = some (.int .i64 nx) ∧ w'.cell? ⟨b, 3, none⟩ = some (.int .u64 nw) ∧ w'.cell? ⟨g, 0, none⟩ = some (.int .i64 x0))
              (first | with_reducible exact HKP.out _ (below_drew1 (Below.refl _ _)) | with_reducible exact HKP.out _ hbl5 | fail)
              (first
                | (go_at_call 59; refine (HDC.out _ ?_).mono ?_; (exact (HN.out.below HBW.out).below (below_drew1 (Below.refl _ _))); (rintro e w5 ⟨rfl, hb5⟩; have hbl5 : Below wc.heap.size wc w5 := (below_drew1 (Below.refl _ _)).trans hb5; clear hb5))
                | fail)
            all_goals (go_wp2_with fail; go_meet)
            all_goals exact ⟨rfl, Lib.hid hbl5⟩
          case rest =>
            obtain ⟨rfl, HB8⟩ := hcut
            have hbw := HBW.out.trans (HB8.out.mono HBW.out.size)
            have hxw := HXW.out.below HB8.out HXW.out.lt
            have HBV := Lib.hid hbw
            have HXV := Lib.hid hxw
            have hkv := HK.out.below hbw HK.out.lt
            clear e0 p0 p1 p2 p3 HKP HDC
            by_cases hbd : bound < (dp : Int)
            · have HSH := Lib.hid (show D = (doN ⟨⟨l, lv, nx, nw⟩, ms ++ [⟨x0, y0⟩], ss⟩ (st3 4 x0 y1), true) by rw [HDU.out, if_pos hbd])
              have lb : b < wc.heap.size := hkv.lt
              have lg : g < wc.heap.size := hxw.lt
              have p0 : wc.cell? ⟨b, 0, none⟩ = some (.slice (some ⟨b2, off, none⟩) n cap) := (hkv.cell 0).trans rfl
              have p1 : wc.cell? ⟨b, 1, none⟩ = some (.int .i64 lv) := (hkv.cell 1).trans rfl
              have p2 : wc.cell? ⟨b, 2, none⟩ = some (.int .i64 nx) := (hkv.cell 2).trans rfl
              have p3 : wc.cell? ⟨b, 3, none⟩ = some (.int .u64 nw) := (hkv.cell 3).trans rfl
              have e1 : wc.cell? ⟨g, 1, none⟩ = some (.int .i64 x1) := (hxw.cell 1).trans rfl
              clear HDU hbw hxw hkv
              have hkeep : ∀ w', Below wc.heap.size wc w' → w'.cell? ⟨b, 0, none⟩ = some (.slice (some ⟨b2, off, none⟩) n cap) ∧ w'.cell? ⟨b, 1, none⟩ = some (.int .i64 lv) ∧ w'.cell? ⟨b, 2, none⟩ = some (.int .i64 nx) ∧ w'.cell? ⟨b, 3, none⟩ = some (.int .u64 nw) ∧ w'.cell? ⟨g, 1, none⟩ = some (.int .i64 x1) := fun w' hb => ⟨(hb.cell (p := ⟨b, 0, none⟩) lb).trans p0, (hb.cell (p := ⟨b, 1, none⟩) lb).trans p1, (hb.cell (p := ⟨b, 2, none⟩) lb).trans p2, (hb.cell (p := ⟨b, 3, none⟩) lb).trans p3, (hb.cell (p := ⟨g, 1, none⟩) lg).trans e1⟩
              have HKP := Lib.hid hkeep
              clear hkeep
              have KA2 := Lib.hid (HKP.out (wc.alloc (.cells #[.int .i64 0, .int .i64 0, .string ⟨#[]⟩, .int .u64 0, .bool false, .bool false] 42)).drew (below_drew1 (below_alloc (Below.refl _ _) _)))
              go_upto_region 11 with fail
              go_cut [8] from 17 to 90 (fun v8 wx => ∃ g8, v8 = .pointer (some ⟨g8, 0, none⟩) ∧ Hid (Blk wx g8 42 #[.int .i64 y0, .int .i64 y1, .string y2, .int .u64 y3, .bool y4, .bool y5]) ∧ Hid (wc.heap.size ≤ g8) ∧ Hid (Below wc.heap.size wc wx))
              case first =>
                go_region_held3 (fun w' => w'.cell? ⟨b, 0, none⟩ = some (.slice (some ⟨b2, off, none⟩) n cap) ∧ w'.cell? ⟨b, 1, none⟩ = some (.int .i64 lv) ∧ w'.cell? ⟨b, 2, none⟩ = some (.int .i64 nx) ∧ w'.cell? ⟨b, 3, none⟩ = some (.int .u64 nw) ∧ w'.cell? ⟨g, 1, none⟩ = some (.int .i64 x1))
                  (first | with_reducible exact HS6.out | with_reducible exact KA2.out | with_reducible exact HKP.out _ (below_drew1 (Below.refl _ _)) | with_reducible exact HKP.out _ (below_alloc (below_drew1 (Below.refl _ _)) _) | with_reducible exact HKP.out _ hbl7 | with_reducible exact HKP.out _ (below_alloc hbl7 _) | fail)
                  (first
                    | (go_at_call 17; refine (HFC.out _ ?_).mono ?_; (exact (HN.out.below HBV.out).below (by first | exact below_drew1 (Below.refl _ _) | exact below_alloc (below_drew1 (Below.refl _ _)) _)); (rintro e w7 ⟨rfl, hb7⟩; have hbl7 : Below wc.heap.size wc w7 := (by first | exact (below_drew1 (Below.refl _ _)).trans hb7 | exact (below_alloc (below_drew1 (Below.refl _ _)) _).trans (hb7.mono (by simp))); (first | (have HZ := Lib.hid (show Blk w7 wc.heap.size 42 #[.int .i64 0, .int .i64 0, .string ⟨#[]⟩, .int .u64 0, .bool false, .bool false] from (hb7.block wc.heap.size (by simp)).trans (heap_alloc_new wc.drew _)); have HS6 := Lib.hid (HKP.out ((((((w7.setCell ⟨wc.heap.size, 0, none⟩ (.int .i64 y0)).setCell ⟨wc.heap.size, 1, none⟩ (.int .i64 y1)).setCell ⟨wc.heap.size, 2, none⟩ (.string y2)).setCell ⟨wc.heap.size, 3, none⟩ (.int .u64 y3)).setCell ⟨wc.heap.size, 4, none⟩ (.bool y4)).setCell ⟨wc.heap.size, 5, none⟩ (.bool y5)) ((((((hbl7.setCell (p := ⟨wc.heap.size, 0, none⟩) (Nat.le_refl _) _).setCell (p := ⟨wc.heap.size, 1, none⟩) (Nat.le_refl _) _).setCell (p := ⟨wc.heap.size, 2, none⟩) (Nat.le_refl _) _).setCell (p := ⟨wc.heap.size, 3, none⟩) (Nat.le_refl _) _).setCell (p := ⟨wc.heap.size, 4, none⟩) (Nat.le_refl _) _).setCell (p := ⟨wc.heap.size, 5, none⟩) (Nat.le_refl _) _)); have z0 : w7.cell? ⟨wc.heap.size, 0, none⟩ = some (.int .i64 0) := (HZ.out.cell 0).trans rfl; have z1 : w7.cell? ⟨wc.heap.size, 1, none⟩ = some (.int .i64 0) := (HZ.out.cell 1).trans rfl; have z2 : w7.cell? ⟨wc.heap.size, 2, none⟩ = some (.string ⟨#[]⟩) := (HZ.out.cell 2).trans rfl; have z3 : w7.cell? ⟨wc.heap.size, 3, none⟩ = some (.int .u64 0) := (HZ.out.cell 3).trans rfl; have z4 : w7.cell? ⟨wc.heap.size, 4, none⟩ = some (.bool false) := (HZ.out.cell 4).trans rfl; have z5 : w7.cell? ⟨wc.heap.size, 5, none⟩ = some (.bool false) := (HZ.out.cell 5).trans rfl; have v0 := HZ.out.frozen 0; have v1 := HZ.out.frozen 1; have v2 := HZ.out.frozen 2; have v3 := HZ.out.frozen 3; have v4 := HZ.out.frozen 4; have v5 := HZ.out.frozen 5) | skip)))
                    | fail)
                all_goals (go_wp2_with fail; go_meet)
                · exact ⟨w7.heap.size, rfl, Lib.hid (Blk.new w7 _ _), Lib.hid hbl7.size, Lib.hid (below_alloc hbl7 _)⟩
                · exact ⟨wc.heap.size, rfl, Lib.hid ((((((HZ.out.set_ 0 _).set_ 1 _).set_ 2 _).set_ 3 _).set_ 4 _).set_ 5 _), Lib.hid (Nat.le_refl _), Lib.hid ((((((hbl7.setCell (p := ⟨wc.heap.size, 0, none⟩) (Nat.le_refl _) _).setCell (p := ⟨wc.heap.size, 1, none⟩) (Nat.le_refl _) _).setCell (p := ⟨wc.heap.size, 2, none⟩) (Nat.le_refl _) _).setCell (p := ⟨wc.heap.size, 3, none⟩) (Nat.le_refl _) _).setCell (p := ⟨wc.heap.size, 4, none⟩) (Nat.le_refl _) _).setCell (p := ⟨wc.heap.size, 5, none⟩) (Nat.le_refl _) _)⟩
              case rest =>
                obtain ⟨g8, rfl, HY, HG8, HB9⟩ := hcut
                have hbz := HBV.out.trans (HB9.out.mono HBV.out.size)
                have hk := HK.out.below hbz HK.out.lt
                have hxz := HXV.out.below HB9.out HXV.out.lt
                have hm := pw_own_below HM.out hbz
                have hs := pw_own_below HS.out hbz
                have HN5 := Lib.hid (HN.out.below hbz)
                have HEZ := Lib.hid (HE.out.trans (hbz.mono HE.out.size))
                have HKZ := Lib.hid (KeepT.of_below hbz)
                have hblt1 : b < wc.heap.size := hk.lt
                have hglt : g < wc.heap.size := hxz.lt
                have hg8lt : g8 < wc.heap.size := HY.out.lt
                have hbg : b < g := by omega
                have hbg8 : b < g8 := by have := HG8.out; have := HBV.out.size; omega
                have hBc : we.heap.size ≤ wc.heap.size := HEZ.out.size
                have p4 : wc.cell? ⟨b, 4, none⟩ = some (.slice MA km mc) := (hk.cell 4).trans rfl
                have fz4 := hk.frozen 4
                have x0' : wc.cell? ⟨g, 0, none⟩ = some (.int .i64 x0) := (hxz.cell 0).trans rfl
                have y0' : wc.cell? ⟨g8, 0, none⟩ = some (.int .i64 y0) := (HY.out.cell 0).trans rfl
                have HNB := Lib.hid (own_ne hm hk (by decide))
                have HNG := Lib.hid (own_neT hm hxz (by decide))
                have HNY := Lib.hid (own_neT hm HY.out (by decide))
                have HKB := Lib.hid hk
                have HM5 := Lib.hid hm
                have HS5 := Lib.hid hs
                have HXZ := Lib.hid hxz
                obtain ⟨i0, hi0, hzz⟩ := Option.map_eq_some_iff.1 infoM
                simp only [Prod.mk.injEq] at hzz
                obtain ⟨hz0, hz1, hz2⟩ := hzz
                have HI0 := Lib.hid hi0
                have HZ0 := Lib.hid hz0
                have HZ1 := Lib.hid hz1
                have HZ2 := Lib.hid hz2
                have hone : ∀ u ∈ (#[.int .i64 x0, .int .i64 y0] : Array Value).toList, u.oneCell' = true := by
                  intro u hu
                  simp only [List.mem_cons, List.not_mem_nil, or_false] at hu
                  rcases hu with rfl | rfl <;> rfl
                have HON := Lib.hid hone
                have hkeep : ∀ w', KeptB wc w' b g8 g (Value.slice MA km mc).ownBlock → w'.cell? ⟨g, 0, none⟩ = some (.int .i64 x0) ∧ w'.cell? ⟨g8, 0, none⟩ = some (.int .i64 y0) := fun w' hb => ⟨(hb.ch 0).trans x0', (hb.cg 0).trans y0'⟩
                have hks2 : ∀ (w' : World) (q : Nat) (v : Value), (w'.cell? ⟨g, 0, none⟩ = some (.int .i64 x0) ∧ w'.cell? ⟨g8, 0, none⟩ = some (.int .i64 y0)) → (w'.setCell ⟨b, q, none⟩ v).cell? ⟨g, 0, none⟩ = some (.int .i64 x0) ∧ (w'.setCell ⟨b, q, none⟩ v).cell? ⟨g8, 0, none⟩ = some (.int .i64 y0) := by
                  intro w' q v hs
                  have c1 := Below.heap_setCell w' ⟨b, q, none⟩ v g (by show g ≠ b; omega)
                  have c2 := Below.heap_setCell w' ⟨b, q, none⟩ v g8 (by show g8 ≠ b; omega)
                  simp only [World.cell?, c1, c2] at hs ⊢
                  exact hs
                have ht : ∀ w', KeptB wc w' b g8 g (Value.slice MA km mc).ownBlock → w'.cell? ⟨b, 4, none⟩ = some (.slice MA km mc) ∧ w'.frozen? ⟨b, 4, none⟩ = false := fun w' hb => ⟨(hb.cb 4).trans p4, (hb.fb 4).trans fz4⟩
                have kd0 : KeptB wc wc.drew b g8 g (Value.slice MA km mc).ownBlock := ⟨rfl, rfl, rfl⟩
                have ka0 : KeptB wc (wc.drew.alloc (.cells #[.int .i64 x0, .int .i64 y0] 58)) b g8 g (Value.slice MA km mc).ownBlock := ⟨Below.heap_alloc wc.drew _ b hblt1, Below.heap_alloc wc.drew _ g8 hg8lt, Below.heap_alloc wc.drew _ g hglt⟩
                have ka1 : KeptB wc (wc.alloc (.cells #[.int .i64 x0, .int .i64 y0] 58)) b g8 g (Value.slice MA km mc).ownBlock := ⟨Below.heap_alloc wc _ b hblt1, Below.heap_alloc wc _ g8 hg8lt, Below.heap_alloc wc _ g hglt⟩
                have tb4 := (ht _ ka1).1
                have tc4 := (ht _ ka0).1
                have HKP2 := Lib.hid hkeep
                have HKSq := Lib.hid hks2
                have HTB := Lib.hid ht
                have KD0 := Lib.hid (hkeep _ kd0)
                have KA0 := Lib.hid ka0
                have KA1 := Lib.hid (hkeep _ ka1)
                have KA3 := Lib.hid (hkeep (wc.alloc (.cells #[.int .i64 x0, .int .i64 y0] 58)).drew ⟨ka1.hb, ka1.hg, ka1.hh⟩)
                have KA4 := Lib.hid (hkeep _ ka0)
                clear hkeep hks2 ht kd0 ka0 ka1 hk hm hs hxz hi0 hz0 hz1 hz2 hone hbz e1 p0 p1 p2 p3 HKP KA2
                go_upto_region 12 with fail
                go_cut [] from 17 to 90 (fun wx => Hid (PsAt wx we.heap.size b ⟨⟨l, lv, nx, nw⟩, ms ++ [⟨x0, y0⟩], ss⟩) ∧ Hid (Below we.heap.size wc wx) ∧ Hid (KeepT wc wx))
                case first =>
                  rw [show Op.load 30 (Operand.tmp 72) = ldM2 from rfl]
                  go_region_held3 (fun w' => w'.cell? ⟨g, 0, none⟩ = some (.int .i64 x0) ∧ w'.cell? ⟨g8, 0, none⟩ = some (.int .i64 y0))
                    (first | with_reducible exact KD0.out | with_reducible exact KA4.out | with_reducible exact KA1.out | with_reducible exact KA3.out | with_reducible exact HKP2.out _ hkb6 | with_reducible exact HKSq.out _ _ _ (HKP2.out _ hkb6) | fail)
                    (first
                      | (refine step_append_own2 _ rfl _ _ 30 (by rfl) we.heap.size 58 i0 _ 2 16 Tryd.underlying30 HI0.out HZ0.out HZ1.out HZ2.out (by rfl) (by decide) (.slice MA km mc) km (flatE encM ms) (by rfl) (pw_own_below HM5.out (below_alloc (below_drew1 (Below.refl _ _)) _)) ⟨wc.heap.size, 0, none⟩ 1 1 (#[.int .i64 x0, .int .i64 y0] : Array Value).toList (by rfl) (by rfl) (World.news_of_block (heap_alloc_new wc.drew _)) HON.out (by unfold maxLen; omega) (by omega) (by have := hBc; simp; omega) ?_; (intro v6 w6 hown6 hg6 hv6; obtain ⟨g6, c6, e6, hb6⟩ := own_formS hown6; subst e6; have hkb6 : KeptB wc w6 b g8 g (Value.slice MA km mc).ownBlock := KeptB.grown KA0.out hg6 (by simp; omega) (by simp; omega) (by simp; omega) HNB.out HNY.out HNG.out; have HO6 := Lib.hid hown6; have HG6 := Lib.hid hg6; obtain ⟨r4, y4'⟩ := HTB.out _ hkb6; clear hg6 hown6 hv6))
                      | fail)
                  all_goals (go_wp2_with fail; go_meet)
                  all_goals obtain ⟨z1, z2, z3⟩ := down_end (h := g) HKB.out ⟨hkb6.hb, hkb6.hb, hkb6.hh⟩ (by first | exact below_drew1 (below_alloc (Below.refl _ _) _) | exact below_alloc (below_drew1 (Below.refl _ _)) _) HG6.out HS5.out HM5.out HO6.out HN5.out HC.out HNN.out HKM.out HKS.out hB hBc
                  all_goals exact ⟨Lib.hid z1, Lib.hid z2, Lib.hid z3⟩
                case rest =>
                  obtain ⟨HPA, HBA, HKA⟩ := hcut
                  have kx := HKA.out.blk HXZ.out (by decide) (by decide) (by decide)
                  have ky := HKA.out.blk HY.out (by decide) (by decide) (by decide)
                  have q0 : wc.cell? ⟨g, 0, none⟩ = some (.int .i64 x0) := (kx.cell 0).trans rfl
                  have q1 : wc.cell? ⟨g8, 1, none⟩ = some (.int .i64 y1) := (ky.cell 1).trans rfl
                  have HCALL := Lib.hid (do_ps we HTT.out b ⟨⟨l, lv, nx, nw⟩, ms ++ [⟨x0, y0⟩], ss⟩ 4 x0 y1 wc (HEZ.out.trans HBA.out) HPA.out HSM.out (by show ss.length ≤ _; rw [HKS.out]; omega))
                  have HKW := Lib.hid (HKZ.out.trans HKA.out)
                  clear kx ky p4 fz4 x0' y0' tb4 tc4
                  go_wp2_with fail
                  refine HCALL.out.mono ?_
                  rintro e w7 ⟨rfl, hp7, hE7, hk7⟩
                  clear q0 q1
                  have HP7 := Lib.hid hp7
                  have HE7 := Lib.hid hE7
                  have HK7 := Lib.hid (HKW.out.trans hk7)
                  clear hp7 hE7 hk7
                  go_wp2_with fail
                  go_ret
                  exact ⟨congrArg (fun q => Ending.returned (.bool q)) (congrArg Prod.snd HSH.out).symm, by rw [HSH.out]; exact HP7.out, HE7.out, HK7.out⟩
            · have hbf : decide (bound < (dp : Int)) = false := decide_eq_false hbd
              have HNX := Lib.hid (show D = shortN ⟨⟨l, lv, nx, nw⟩, ms, ss⟩ bound (l.drop (j + 1)) by rw [HDU.out, if_neg hbd])
              clear HDU hbw hxw hkv
              go_wp2_with fail
              go_roundw
              case rel => exact ⟨j + 1, by omega, by go_num, HNX, HBV⟩
              case measure => simp [intOf]; omega
    · obtain rfl : j = n := by omega
      have hfin : D = (⟨⟨l, lv, nx, nw⟩, ms, ss⟩, false) := by rw [hd.out, List.drop_of_length_le (by rw [HNN.out]; exact Nat.le_refl _)]; rfl
      have HSH := Lib.hid hfin
      have HPZ := Lib.hid (HPP.out.below hb.out)
      have HEZ := Lib.hid (HE.out.trans (hb.out.mono HE.out.size))
      have HKZ := Lib.hid (KeepT.of_below hb.out)
      clear hfin hd hb
      go_wp2_with fail
      go_ret
      exact ⟨congrArg (fun q => Ending.returned (.bool q)) (congrArg Prod.snd HSH.out).symm, by rw [HSH.out]; exact HPZ.out, HEZ.out, HKZ.out⟩
end Go.Proofs.YtfdhehjfbcddgaaDoor.Pr
