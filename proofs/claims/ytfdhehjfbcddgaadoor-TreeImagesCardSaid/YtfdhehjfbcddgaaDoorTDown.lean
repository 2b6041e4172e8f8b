/- (*planner).down: puts a node's image into its one kid, and takes it away. Conditions: the tree's nodes are not more than a million, nor is any name longer; so many steps and merges as fit. -/
import Derived.Test.YtfdhehjfbcddgaaDoorTDo
namespace Go.Proofs.YtfdhehjfbcddgaaDoor.Pr
open Go.RowKit Go.Proofs.YtfdhehjfbcddgaaDoorW.PrintWords Go.Proofs.YtfdhehjfbcddgaaDoorW.PrintLast Go.Proofs.YtfdhehjfbcddgaaDoor
set_option linter.unusedVariables false
/-- the load of a plan's merges (named, so that the walk of the region that draws takes it as it comes) -/
def ldM : Op := .load 30 (.tmp 10)
attribute [local go_sem] ldM
theorem down_end {wc W w6 : World} {B b n cap km mc ks sc g6 c6 h : Nat} {A MA SA : Option Addr} {lv nx nw kid x0 : Int} {l : List Nd} {ms : List Mg} {ss : List St}
    (hkb : Blk wc b 96 #[.slice A n cap, .int .i64 lv, .int .i64 nx, .int .u64 nw, .slice MA km mc, .slice SA ks sc]) (hkp : KeptB wc w6 b b h (Value.slice MA km mc).ownBlock) (hW : Below wc.heap.size wc W) (hgr : W.grownBy w6 (Value.slice MA km mc).ownBlock) (hs5 : wc.ownsRow B 62 5 (.slice SA ks sc) ks (flatE encS ss)) (hm5 : wc.ownsRow B 58 2 (.slice MA km mc) km (flatE encM ms))
    (ho6 : w6.ownsRow B 58 2 (.slice (some ⟨g6, 0, none⟩) (km + 1) c6) (km + 1) (flatE encM ms ++ (#[.int .i64 kid, .int .i64 x0] : Array Value).toList)) (hn5 : NodesAt wc A l) (hcp : n ≤ cap) (hqn : l.length = n) (hkm : ms.length = km) (hks : ss.length = ks) (hBb : B ≤ b) (hB : B ≤ wc.heap.size) :
    PsAt (w6.setCell ⟨b, 4, none⟩ (.slice (some ⟨g6, 0, none⟩) (km + 1) c6)) B b ⟨⟨l, lv, nx, nw⟩, ms ++ [⟨kid, x0⟩], ss⟩ ∧ Below B wc (w6.setCell ⟨b, 4, none⟩ (.slice (some ⟨g6, 0, none⟩) (km + 1) c6)) ∧ KeepT wc (w6.setCell ⟨b, 4, none⟩ (.slice (some ⟨g6, 0, none⟩) (km + 1) c6)) := by
  have hk6 : Blk w6 b 96 #[.slice A n cap, .int .i64 lv, .int .i64 nx, .int .u64 nw, .slice MA km mc, .slice SA ks sc] := hkp.hb.trans hkb
  have k1 := hk6.set_ 4 (.slice (some ⟨g6, 0, none⟩) (km + 1) c6)
  have hn6 : NodesAt w6 A l := (hn5.below hW).kept (fun k cs fr hk => hgr.block k (obj_lt hk) (own_neT (pw_own_below hm5 hW) hk (by decide)))
  have hs6 : w6.ownsRow B 62 5 (.slice SA ks sc) ks (flatE encS ss) := own_other (pw_own_below hs5 hW) hgr (own_type_ne (pw_own_below hs5 hW) (pw_own_below hm5 hW) (by decide))
  have hnem := own_ne ho6 hk6 (by decide)
  have hnes := own_ne hs6 hk6 (by decide)
  have hl : (ms ++ [(⟨kid, x0⟩ : Mg)]).length = km + 1 := by rw [List.length_append, hkm]; rfl
  have he : flatE encM ms ++ (#[.int .i64 kid, .int .i64 x0] : Array Value).toList = flatE encM (ms ++ [⟨kid, x0⟩]) := by rw [flatE_append]; rfl
  rw [he] at ho6
  have hb6 : Below B wc w6 := pw_below_grown (hW.mono hB) _ (Nat.le_trans hB hW.size) hgr (fun k hk => (hm5.lt k hk).1)
  refine ⟨⟨A, cap, some ⟨g6, 0, none⟩, c6, SA, sc, ?_, by dsimp only; rw [hqn]; exact hcp, ?_, ?_, ?_, hBb⟩, hb6.setCell (p := ⟨b, 4, none⟩) hBb _, ?_⟩
  · dsimp only
    rw [hqn, hks, hl]
    exact k1
  · exact hn6.setB hk6 (by decide) 4 _
  · dsimp only
    rw [hl]
    exact own_setCell ho6 (p := ⟨b, 4, none⟩) hnem _
  · dsimp only
    rw [hks]
    exact own_setCell hs6 (p := ⟨b, 4, none⟩) hnes _
  · have hk0 : KeepT wc w6 := ⟨Nat.le_trans hW.size hgr.size, fun k cs ty fr hk a1 a2 a3 => (hgr.block k (Nat.lt_of_lt_of_le (obj_lt hk) hW.size) (own_neT hm5 hk (fun e => a3 e.symm))).trans (hW.block k (obj_lt hk))⟩
    exact hk0.setB hkb 4 _
set_option maxRecDepth 100000 in
set_option maxHeartbeats 8000000 in
theorem down_ps (we : World) (hT : Tabs we) (b : Nat) (s : Ps) (x : Nd) (kid : Int) (w : World) (hE : Below we.heap.size we w) (hp : PsAt w we.heap.size b s) (hS : SmallT s.t) (hss : s.ss.length ≤ 1099511627775) (hms : s.ms.length ≤ 1099511627776) :
    Calls Tryd.prog 47 #[.pointer (some ⟨b, 0, none⟩), valN x, .int .i64 kid] w fun e w' => e = .returned (.tuple #[]) ∧ PsAt w' we.heap.size b (downN s x kid) ∧ Below we.heap.size we w' ∧ KeepT w w' := by
  have hbn := (Below.refl w.heap.size w).alloc (Nat.le_refl _) (.cells #[.int .i64 x.id, .int .i64 x.par, .string x.name, .int .u64 x.time, .bool x.ghost, .bool x.pin] 42)
  have hx := Blk.new w 42 #[.int .i64 x.id, .int .i64 x.par, .string x.name, .int .u64 x.time, .bool x.ghost, .bool x.pin]
  have hp1 := hp.below hbn
  have hE1 := hE.trans (hbn.mono hE.size)
  have hdn : downN s x kid = doN (doN ⟨s.t, s.ms ++ [⟨kid, x.id⟩], s.ss⟩ (if kid = 0 then st3 6 x.par 0 else st3 4 kid x.par)) (st3 3 x.id 0) := rfl
  obtain ⟨D, hD⟩ : ∃ D, downN s x kid = D := ⟨_, rfl⟩
  rw [hD] at hdn ⊢
  obtain ⟨x0, x1, x2, x3, x4, x5⟩ := x
  dsimp only at hbn hx hp1 hE1 hdn
  unfold valN
  dsimp only
  obtain ⟨⟨l, lv, nx, nw⟩, ms, ss⟩ := s
  dsimp only at hS hss hms hdn
  have hblt : b < w.heap.size := by
    obtain ⟨_, _, _, _, _, _, hk, _⟩ := hp
    exact hk.lt
  obtain ⟨h, hh⟩ : ∃ h, h = w.heap.size := ⟨_, rfl⟩
  have HH := Lib.hid hh
  have hbh : b < h := by omega
  have HDN := Lib.hid hdn
  have HK0 := Lib.hid (KeepT.of_below hbn)
  have HX := Lib.hid hx
  have HE := Lib.hid hE1
  have HP := Lib.hid hp1
  have HS := Lib.hid hS
  have HTT := Lib.hid hT
  clear hbn hx hp1 hE1 hdn hD hp hE hS hT hh
  go_enter Tryd.func47, Tryd.ntmps47
  go_upto_region 1 with fail
  rw [← HH.out] at HX ⊢
  generalize (w.alloc (.cells #[.int .i64 x0, .int .i64 x1, .string x2, .int .u64 x3, .bool x4, .bool x5] 42)) = w1 at HK0 HX HE HP ⊢
  go_cut [] from 5 (fun wx => Hid (PsAt wx we.heap.size b ⟨⟨l, lv, nx, nw⟩, ms ++ [⟨kid, x0⟩], ss⟩) ∧ Hid (Below we.heap.size we wx) ∧ Hid (KeepT w1 wx))
  case first =>
    obtain ⟨A, cap, MA, mc, SA, sc, hk, hc, hn, hm, hs, hB⟩ := HP.out
    dsimp only at hk hc hn hm hs
    obtain ⟨n, hnn⟩ : ∃ n, l.length = n := ⟨_, rfl⟩
    obtain ⟨km, hkm⟩ : ∃ km, ms.length = km := ⟨_, rfl⟩
    obtain ⟨ks, hks⟩ : ∃ ks, ss.length = ks := ⟨_, rfl⟩
    rw [hnn, hkm, hks] at hk
    rw [hnn] at hc
    rw [hkm] at hm hms
    rw [hks] at hs
    have hhlt : h < w1.heap.size := HX.out.lt
    have hblt1 : b < w1.heap.size := hk.lt
    have hBc : we.heap.size ≤ w1.heap.size := HE.out.size
    have p4 : w1.cell? ⟨b, 4, none⟩ = some (.slice MA km mc) := (hk.cell 4).trans rfl
    have fz4 := hk.frozen 4
    have x0' : w1.cell? ⟨h, 0, none⟩ = some (.int .i64 x0) := (HX.out.cell 0).trans rfl
    have hneb := own_ne hm hk (by decide)
    have hneh : some h ≠ (Value.slice MA km mc).ownBlock := own_neT hm HX.out (by decide)
    have HKB := Lib.hid hk
    have HM5 := Lib.hid hm
    have HS5 := Lib.hid hs
    have HN5 := Lib.hid hn
    have HC5 := Lib.hid hc
    have HNN := Lib.hid hnn
    have HKM := Lib.hid hkm
    have HKS := Lib.hid hks
    have HNB := Lib.hid hneb
    have HNH := Lib.hid hneh
    obtain ⟨i0, hi0, hzz⟩ := Option.map_eq_some_iff.1 infoM
    simp only [Prod.mk.injEq] at hzz
    obtain ⟨hz0, hz1, hz2⟩ := hzz
    have HI0 := Lib.hid hi0
    have HZ0 := Lib.hid hz0
    have HZ1 := Lib.hid hz1
    have HZ2 := Lib.hid hz2
    have hone : ∀ u ∈ (#[.int .i64 kid, .int .i64 x0] : Array Value).toList, u.oneCell' = true := by
      intro u hu
      simp only [List.mem_cons, List.not_mem_nil, or_false] at hu
      rcases hu with rfl | rfl <;> rfl
    have HON := Lib.hid hone
    have hkeep : ∀ w', KeptB w1 w' b b h (Value.slice MA km mc).ownBlock → w'.cell? ⟨h, 0, none⟩ = some (.int .i64 x0) := fun w' hb => (hb.ch 0).trans x0'
    have hks2 : ∀ (w' : World) (j : Nat) (v : Value), (w'.cell? ⟨h, 0, none⟩ = some (.int .i64 x0)) → (w'.setCell ⟨b, j, none⟩ v).cell? ⟨h, 0, none⟩ = some (.int .i64 x0) := by
      intro w' j v hs
      have q1 : h ≠ b := by omega
      have := Below.heap_setCell w' ⟨b, j, none⟩ v h q1
      simp only [World.cell?, this] at hs ⊢
      exact hs
    have ht : ∀ w', KeptB w1 w' b b h (Value.slice MA km mc).ownBlock → w'.cell? ⟨b, 4, none⟩ = some (.slice MA km mc) ∧ w'.frozen? ⟨b, 4, none⟩ = false := fun w' hb => ⟨(hb.cb 4).trans p4, (hb.fb 4).trans fz4⟩
    have kd0 : KeptB w1 w1.drew b b h (Value.slice MA km mc).ownBlock := ⟨rfl, rfl, rfl⟩
    have ka0 : KeptB w1 (w1.drew.alloc (.cells #[.int .i64 kid, .int .i64 x0] 58)) b b h (Value.slice MA km mc).ownBlock := ⟨Below.heap_alloc w1.drew _ b hblt1, Below.heap_alloc w1.drew _ b hblt1, Below.heap_alloc w1.drew _ h hhlt⟩
    have ka1 : KeptB w1 (w1.alloc (.cells #[.int .i64 kid, .int .i64 x0] 58)) b b h (Value.slice MA km mc).ownBlock := ⟨Below.heap_alloc w1 _ b hblt1, Below.heap_alloc w1 _ b hblt1, Below.heap_alloc w1 _ h hhlt⟩
    have tb4 := (ht _ ka1).1
    have tc4 := (ht _ ka0).1
    have HKP := Lib.hid hkeep
    have HKS' := Lib.hid hks2
    have HTB := Lib.hid ht
    have KD0 := Lib.hid kd0
    have KA0 := Lib.hid ka0
    have KA1 := Lib.hid ka1
    have KA2 := Lib.hid (show KeptB w1 (w1.alloc (.cells #[.int .i64 kid, .int .i64 x0] 58)).drew b b h (Value.slice MA km mc).ownBlock from ⟨ka1.hb, ka1.hg, ka1.hh⟩)
    clear hkeep hks2 ht kd0 ka0 ka1 hk hm hs hn hc hnn hkm hks hneb hneh hi0 hz0 hz1 hz2 hone hB
    rw [show Op.load 30 (Operand.tmp 10) = ldM from rfl]
    go_region_held3 (fun w' => w'.cell? ⟨h, 0, none⟩ = some (.int .i64 x0))
      (first | with_reducible exact HKP.out _ KD0.out | with_reducible exact HKP.out _ KA0.out | with_reducible exact HKP.out _ KA1.out | with_reducible exact HKP.out _ KA2.out | with_reducible exact HKP.out _ hkb6 | with_reducible exact HKS'.out _ _ _ (HKP.out _ hkb6) | fail)
      (first
        | (refine step_append_own2 _ rfl _ _ 30 (by rfl) we.heap.size 58 i0 _ 2 16 Tryd.underlying30 HI0.out HZ0.out HZ1.out HZ2.out (by rfl) (by decide) (.slice MA km mc) km (flatE encM ms) (by rfl) (pw_own_below HM5.out (below_alloc (below_drew1 (Below.refl _ _)) _)) ⟨w1.heap.size, 0, none⟩ 1 1 (#[.int .i64 kid, .int .i64 x0] : Array Value).toList (by rfl) (by rfl) (World.news_of_block (heap_alloc_new w1.drew _)) HON.out (by unfold maxLen; omega) (by omega) (by have := hBc; simp; omega) ?_; (intro v6 w6 hown6 hg6 hv6; obtain ⟨g6, c6, e6, hb6⟩ := own_formS hown6; subst e6; have hkb6 : KeptB w1 w6 b b h (Value.slice MA km mc).ownBlock := KeptB.grown KA0.out hg6 (by simp; omega) (by simp; omega) (by simp; omega) HNB.out HNB.out HNH.out; have HO6 := Lib.hid hown6; have HG6 := Lib.hid hg6; obtain ⟨r4, y4⟩ := HTB.out _ hkb6; clear hg6 hown6 hv6))
        | fail)
    all_goals (go_wp2_with fail; go_meet)
    all_goals obtain ⟨z1, z2, z3⟩ := down_end HKB.out hkb6 (by first | exact below_drew1 (below_alloc (Below.refl _ _) _) | exact below_alloc (below_drew1 (Below.refl _ _)) _) HG6.out HS5.out HM5.out HO6.out HN5.out HC5.out HNN.out HKM.out HKS.out (by obtain ⟨_, _, _, _, _, _, _, _, _, _, _, hB⟩ := HP.out; exact hB) hBc
    all_goals exact ⟨Lib.hid z1, Lib.hid (HE.out.trans z2), Lib.hid z3⟩
  case rest =>
    obtain ⟨HP2, HE2, HK2⟩ := hcut
    have kx := HK2.out.blk HX.out (by decide) (by decide) (by decide)
    have hsm1 := HS.out
    have x1' : wc.cell? ⟨h, 1, none⟩ = some (.int .i64 x1) := (kx.cell 1).trans rfl
    have HX2 := Lib.hid kx
    clear kx HX HP HE
    by_cases hk0 : kid = 0
    · subst hk0
      have hcall := do_ps we HTT.out b ⟨⟨l, lv, nx, nw⟩, ms ++ [⟨0, x0⟩], ss⟩ 6 x1 0 wc HE2.out HP2.out hsm1 (by dsimp only; omega)
      have HC := Lib.hid hcall
      have hD : D = doN (doN ⟨⟨l, lv, nx, nw⟩, ms ++ [⟨0, x0⟩], ss⟩ (st3 6 x1 0)) (st3 3 x0 0) := by rw [HDN.out, if_pos rfl]
      have HD := Lib.hid hD
      clear hcall hD HDN HP2 HE2 hsm1
      go_wp2_with fail
      refine HC.out.mono ?_
      rintro e w3 ⟨rfl, hp3, hE3, hk3⟩
      have hsm2 := small_do (st := st3 6 x1 0) HS.out (Nat.zero_le _) (s := ⟨⟨l, lv, nx, nw⟩, ms ++ [⟨0, x0⟩], ss⟩)
      have hln := (do_len ⟨⟨l, lv, nx, nw⟩, ms ++ [⟨0, x0⟩], ss⟩ (st3 6 x1 0)).1
      have hcall := do_ps we HTT.out b _ 3 x0 0 w3 hE3 hp3 hsm2 (by dsimp only at hln; omega)
      have kx := hk3.blk HX2.out (by decide) (by decide) (by decide)
      have x0' : w3.cell? ⟨h, 0, none⟩ = some (.int .i64 x0) := (kx.cell 0).trans rfl
      rw [← HD.out] at hcall
      have HC3 := Lib.hid hcall
      have HK3 := Lib.hid (HK0.out.trans (HK2.out.trans hk3))
      clear hcall kx hp3 hE3 hk3 hsm2 hln x1' HC HX2 HK0 HK2 HD
      go_wp2_with fail
      refine HC3.out.mono ?_
      rintro e w4 ⟨rfl, hp4, hE4, hk4⟩
      have HP4 := Lib.hid hp4
      have HE4 := Lib.hid hE4
      have HK4 := Lib.hid (HK3.out.trans hk4)
      clear hp4 hE4 hk4
      go_wp2_with fail
      go_end0
      exact ⟨rfl, HP4.out, HE4.out, HK4.out⟩
    · have hcall := do_ps we HTT.out b ⟨⟨l, lv, nx, nw⟩, ms ++ [⟨kid, x0⟩], ss⟩ 4 kid x1 wc HE2.out HP2.out hsm1 (by dsimp only; omega)
      have HC := Lib.hid hcall
      have hD : D = doN (doN ⟨⟨l, lv, nx, nw⟩, ms ++ [⟨kid, x0⟩], ss⟩ (st3 4 kid x1)) (st3 3 x0 0) := by rw [HDN.out, if_neg hk0]
      have HD := Lib.hid hD
      clear hcall hD HDN HP2 HE2 hsm1
      go_wp2_with fail
      refine HC.out.mono ?_
      rintro e w3 ⟨rfl, hp3, hE3, hk3⟩
      have hsm2 := small_do (st := st3 4 kid x1) HS.out (Nat.zero_le _) (s := ⟨⟨l, lv, nx, nw⟩, ms ++ [⟨kid, x0⟩], ss⟩)
      have hln := (do_len ⟨⟨l, lv, nx, nw⟩, ms ++ [⟨kid, x0⟩], ss⟩ (st3 4 kid x1)).1
      have hcall := do_ps we HTT.out b _ 3 x0 0 w3 hE3 hp3 hsm2 (by dsimp only at hln; omega)
      have kx := hk3.blk HX2.out (by decide) (by decide) (by decide)
      have x0' : w3.cell? ⟨h, 0, none⟩ = some (.int .i64 x0) := (kx.cell 0).trans rfl
      rw [← HD.out] at hcall
      have HC3 := Lib.hid hcall
      have HK3 := Lib.hid (HK0.out.trans (HK2.out.trans hk3))
      clear hcall kx hp3 hE3 hk3 hsm2 hln x1' HC HX2 HK0 HK2 HD
      go_wp2_with fail
      refine HC3.out.mono ?_
      rintro e w4 ⟨rfl, hp4, hE4, hk4⟩
      have HP4 := Lib.hid hp4
      have HE4 := Lib.hid hE4
      have HK4 := Lib.hid (HK3.out.trans hk4)
      clear hp4 hE4 hk4
      go_wp2_with fail
      go_end0
      exact ⟨rfl, HP4.out, HE4.out, HK4.out⟩
end Go.Proofs.YtfdhehjfbcddgaaDoor.Pr
