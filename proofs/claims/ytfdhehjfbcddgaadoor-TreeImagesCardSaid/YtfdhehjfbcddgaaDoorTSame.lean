/- rootcellarlaw14.sameTree, where both are one. Condition: the nodes are not more than a million. -/
import Derived.Test.YtfdhehjfbcddgaaDoorTLaw0
import Derived.Deep.LoopGhost
import Derived.Deep.CutRange
section
namespace Go.Proofs.YtfdhehjfbcddgaaDoor.Pr
open Go.RowKit Go.Proofs.YtfdhehjfbcddgaaDoorW.PrintWords Go.Proofs.YtfdhehjfbcddgaaDoorW.PrintLast Go.Proofs.YtfdhehjfbcddgaaDoor
set_option linter.unusedVariables false
/-- the load of the row of links that was made so far (named, so that the walk of the region that draws takes it as it comes) -/
def ldA : Op := .load 45 (.tmp 19)
attribute [local go_sem] ldA
abbrev RefsAt (w : World) (A : Option Addr) (l : List Nd) : Prop := RowAt 85 encN w A l
def RtAt (w : World) (v : Value) (t : Tr) : Prop := ∃ A cap, v = .agg #[.slice A t.l.length cap, .int .i64 t.lv, .int .i64 t.nx, .int .u64 t.nw] ∧ RefsAt w A t.l
theorem rt_info : (Tryd.prog.info? 47).map (·.size) = some 4 := by kernel_rfl
theorem as_end {wr wx w6 : World} {o B j oc g6 c6 h b2 : Nat} {OA A : Option Addr} {lv nx nw x0 x1 x3 : Int} {x2 : ByteArray} {x4 x5 : Bool} {l l0 : List Nd}
    (hko : Blk wr o 47 #[.slice OA j oc, .int .i64 lv, .int .i64 nx, .int .u64 nw]) (hkp : KeptB wr w6 o h b2 (Value.slice OA j oc).ownBlock) (hW : Below wr.heap.size wr wx) (hgr : wx.grownBy w6 (Value.slice OA j oc).ownBlock) (hown : wr.ownsRow B 85 6 (.slice OA j oc) j (flatE encN l0))
    (ho6 : w6.ownsRow B 85 6 (.slice (some ⟨g6, 0, none⟩) (j + 1) c6) (j + 1) (flatE encN l0 ++ (#[.int .i64 x0, .int .i64 x1, .string x2, .int .u64 x3, .bool x4, .bool x5] : Array Value).toList)) (hn : NodesAt wr A l) (hB : B ≤ wr.heap.size) (hBo : B ≤ o) :
    Blk (w6.setCell ⟨o, 0, none⟩ (.slice (some ⟨g6, 0, none⟩) (j + 1) c6)) o 47 #[.slice (some ⟨g6, 0, none⟩) (j + 1) c6, .int .i64 lv, .int .i64 nx, .int .u64 nw] ∧
    (w6.setCell ⟨o, 0, none⟩ (.slice (some ⟨g6, 0, none⟩) (j + 1) c6)).ownsRow B 85 6 (.slice (some ⟨g6, 0, none⟩) (j + 1) c6) (j + 1) (flatE encN (l0 ++ [⟨x0, x1, x2, x3, x4, x5⟩])) ∧
    NodesAt (w6.setCell ⟨o, 0, none⟩ (.slice (some ⟨g6, 0, none⟩) (j + 1) c6)) A l ∧ Below B wr (w6.setCell ⟨o, 0, none⟩ (.slice (some ⟨g6, 0, none⟩) (j + 1) c6)) ∧
    (∀ k ty cs, Blk wr k ty cs → k ≠ o → ty ≠ 85 → Blk (w6.setCell ⟨o, 0, none⟩ (.slice (some ⟨g6, 0, none⟩) (j + 1) c6)) k ty cs) := by
  have hk6 : Blk w6 o 47 #[.slice OA j oc, .int .i64 lv, .int .i64 nx, .int .u64 nw] := hkp.hb.trans hko
  have hne := own_ne ho6 hk6 (by decide)
  have he : flatE encN l0 ++ (#[.int .i64 x0, .int .i64 x1, .string x2, .int .u64 x3, .bool x4, .bool x5] : Array Value).toList = flatE encN (l0 ++ [⟨x0, x1, x2, x3, x4, x5⟩]) := by rw [flatE_append]; rfl
  rw [he] at ho6
  have hb6 : Below B wr w6 := pw_below_grown (hW.mono hB) _ (Nat.le_trans hB hW.size) hgr (fun k hk => (hown.lt k hk).1)
  have hn6 : NodesAt w6 A l := (hn.below hW).kept (fun k cs fr hk => hgr.block k (obj_lt hk) (own_neT (pw_own_below hown hW) hk (by decide)))
  refine ⟨hk6.set_ 0 _, own_setCell ho6 (p := ⟨o, 0, none⟩) hne _, hn6.setB hk6 (by decide) 0 _, hb6.setCell (p := ⟨o, 0, none⟩) hBo _, fun k ty cs hk h1 h2 => ?_⟩
  have h3 : w6.heap[k]? = wr.heap[k]? := (hgr.block k (Nat.lt_of_lt_of_le hk.lt hW.size) (own_neT hown hk (fun e => h2 e.symm))).trans (hW.block k hk.lt)
  exact (Below.heap_setCell w6 ⟨o, 0, none⟩ _ k h1).trans (h3.trans hk)
set_option maxRecDepth 100000 in
set_option maxHeartbeats 8000000 in
theorem as_any (A : Option Addr) (cap : Nat) (l : List Nd) (lv nx nw : Int) (w : World) (hl : l.length ≤ 1000000) (hr : NodesAt w A l) :
    Calls Tryd.prog 16 #[.agg #[.slice A l.length cap, .int .i64 lv, .int .i64 nx, .int .u64 nw]] w fun e w' => ∃ v, e = .returned v ∧ RtAt w' v ⟨l, lv, nx, nw⟩ ∧ Below w.heap.size w w' := by
  have hz : w.ownsRow w.heap.size 85 6 (.slice none 0 0) 0 (flatE encN (l.take 0)) := own_nil _ _ _ _
  obtain ⟨n, hn⟩ : ∃ n, l.length = n := ⟨_, rfl⟩
  have HN := Lib.hid hn
  rw [hn] at hl ⊢
  have hbel : Below w.heap.size w ((w.alloc (.cells #[.slice A n cap, .int .i64 lv, .int .i64 nx, .int .u64 nw] 28)).alloc (.cells #[.slice none 0 0, .int .i64 0, .int .i64 0, .int .u64 0] 47)) := ((Below.refl _ _).alloc (Nat.le_refl _) _).alloc (by simp) _
  have hk0 : Blk ((w.alloc (.cells #[.slice A n cap, .int .i64 lv, .int .i64 nx, .int .u64 nw] 28)).alloc (.cells #[.slice none 0 0, .int .i64 0, .int .i64 0, .int .u64 0] 47)) w.heap.size 28 #[.slice A n cap, .int .i64 lv, .int .i64 nx, .int .u64 nw] := (Blk.new w 28 #[.slice A n cap, .int .i64 lv, .int .i64 nx, .int .u64 nw]).alloc _
  have hk1 : Blk ((w.alloc (.cells #[.slice A n cap, .int .i64 lv, .int .i64 nx, .int .u64 nw] 28)).alloc (.cells #[.slice none 0 0, .int .i64 0, .int .i64 0, .int .u64 0] 47)) (w.heap.size + 1) 47 #[.slice none 0 0, .int .i64 0, .int .i64 0, .int .u64 0] := blk_new1 w _ _ _
  have hsz : (((w.alloc (.cells #[.slice A n cap, .int .i64 lv, .int .i64 nx, .int .u64 nw] 28)).alloc (.cells #[.slice none 0 0, .int .i64 0, .int .i64 0, .int .u64 0] 47))).heap.size = w.heap.size + 1 + 1 := by simp
  have hr0 := hr.below hbel
  have hz0 := pw_own_below hz hbel
  clear hr hn hz
  go_enter Tryd.func16, Tryd.ntmps16
  go_upto_region 1 with fail
  generalize ((w.alloc (.cells #[.slice A n cap, .int .i64 lv, .int .i64 nx, .int .u64 nw] 28)).alloc (.cells #[.slice none 0 0, .int .i64 0, .int .i64 0, .int .u64 0] 47)) = w1 at hbel hk0 hk1 hr0 hz0 hsz ⊢
  have t0 : w1.cell? ⟨w.heap.size, 0, none⟩ = some (.slice A n cap) := (hk0.cell 0).trans rfl
  have t1 : w1.cell? ⟨w.heap.size, 1, none⟩ = some (.int .i64 lv) := (hk0.cell 1).trans rfl
  have t2 : w1.cell? ⟨w.heap.size, 2, none⟩ = some (.int .i64 nx) := (hk0.cell 2).trans rfl
  have t3 : w1.cell? ⟨w.heap.size, 3, none⟩ = some (.int .u64 nw) := (hk0.cell 3).trans rfl
  have HSZ := Lib.hid hsz
  have hbx : Below w1.heap.size w1 (w1.alloc (.cells #[.slice none 0 0, .int .i64 lv, .int .i64 nx, .int .u64 nw] 47)) := (Below.refl _ _).alloc (Nat.le_refl _) _
  have hk2 := Blk.new w1 47 #[.slice none 0 0, .int .i64 lv, .int .i64 nx, .int .u64 nw]
  have HB := Lib.hid (hbel.trans (hbx.mono hbel.size))
  have HK0 := Lib.hid (hk0.below hbx hk0.lt)
  have HK1 := Lib.hid (hk1.below hbx hk1.lt)
  have HK2 := Lib.hid hk2
  have HR := Lib.hid (hr0.below hbx)
  have HZ := Lib.hid (pw_own_below hz0 hbx)
  clear hbel hk0 hk1 hr0 hz0 hsz hbx hk2
  go_upto_region 2 with fail
  clear t0 t1 t2 t3
  rw [HSZ.out] at HK2 ⊢
  generalize (w1.alloc (.cells #[.slice none 0 0, .int .i64 lv, .int .i64 nx, .int .u64 nw] 47)) = w2 at HB HK0 HK1 HK2 HR HZ ⊢
  clear HSZ
  obtain ⟨i0, hi0, hzz⟩ := Option.map_eq_some_iff.1 (show (Tryd.prog.info? 85).map (fun i => (i.zero, i.size, i.bytes)) = some (some (.agg #[.int .i64 0, .int .i64 0, .string ⟨#[]⟩, .int .u64 0, .bool false, .bool false]), 6, 48) by kernel_rfl)
  simp only [Prod.mk.injEq] at hzz
  obtain ⟨hz0, hz1, hz2⟩ := hzz
  have HI0 := Lib.hid hi0
  have HZ0 := Lib.hid hz0
  have HZ1 := Lib.hid hz1
  have HZ2 := Lib.hid hz2
  clear hi0 hz0 hz1 hz2
  go_wp2_with fail
  go_loopg [4] n (fun k v4 wr => ∃ (j : Nat) (OA : Option Addr) (oc : Nat), j + k = n ∧ v4 = .int .i64 (j : Int) ∧ Hid (wr.ownsRow w.heap.size 85 6 (.slice OA j oc) j (flatE encN (l.take j))) ∧ Hid (Blk wr (w.heap.size + 1 + 1) 47 #[.slice OA j oc, .int .i64 lv, .int .i64 nx, .int .u64 nw]) ∧ Hid (Blk wr w.heap.size 28 #[.slice A n cap, .int .i64 lv, .int .i64 nx, .int .u64 nw]) ∧ Hid (Blk wr (w.heap.size + 1) 47 #[.slice none 0 0, .int .i64 0, .int .i64 0, .int .u64 0]) ∧ Hid (NodesAt wr A l) ∧ Hid (Below w.heap.size w wr))
  case atStart => exact ⟨0, none, 0, by omega, rfl, HZ, HK2, HK0, HK1, HR, HB⟩
  case round =>
    clear HZ HK2 HK0 HK1 HR HB
    obtain ⟨j, OA, oc, hjk, rfl, HO, HKO, HK0, HK1, HR, HB⟩ := hrel
    have hl0 : w.heap.size < wr.heap.size := HK0.out.lt
    have hlo : w.heap.size + 1 + 1 < wr.heap.size := HKO.out.lt
    have hlr : w.heap.size + 1 < wr.heap.size := HK1.out.lt
    have t0 : wr.cell? ⟨w.heap.size, 0, none⟩ = some (.slice A n cap) := (HK0.out.cell 0).trans rfl
    by_cases hlt : j < n
    · have hjl : j < l.length := by rw [HN.out]; exact hlt
      have hRW := HR.out
      obtain ⟨b2, off, hAe, ⟨cs, fr, hob⟩, hcell⟩ := hRW (by omega)
      obtain ⟨d0, d1, d2, d3, d4, d5⟩ := nodes_get hcell j hjl
      have hl2 := obj_lt hob
      have htk : l.take (j + 1) = l.take j ++ [l[j]'hjl] := List.take_succ_eq_append_getElem hjl
      obtain ⟨x, hx⟩ : ∃ x, l[j]'hjl = x := ⟨_, rfl⟩
      rw [hx] at d0 d1 d2 d3 d4 d5 htk
      obtain ⟨x0, x1, x2, x3, x4, x5⟩ := x
      dsimp only at d0 d1 d2 d3 d4 d5
      have hlk := fun (wx : World) => link_any ⟨x0, x1, x2, x3, x4, x5⟩ wx
      unfold valN at hlk
      dsimp only at hlk
      have HLK := Lib.hid hlk
      have HTK := Lib.hid htk
      have hneo := own_ne HO.out HKO.out (by decide)
      have hneh := own_neT HO.out HK0.out (by decide)
      have hneb := own_neT HO.out hob (by decide)
      have p4 : wr.cell? ⟨w.heap.size + 1 + 1, 0, none⟩ = some (.slice OA j oc) := (HKO.out.cell 0).trans rfl
      have fz4 := HKO.out.frozen 0
      have hone : ∀ u ∈ (#[.int .i64 x0, .int .i64 x1, .string x2, .int .u64 x3, .bool x4, .bool x5] : Array Value).toList, u.oneCell' = true := by
        intro u hu
        simp only [List.mem_cons, List.not_mem_nil, or_false] at hu
        rcases hu with rfl | rfl | rfl | rfl | rfl | rfl <;> rfl
      have HON := Lib.hid hone
      have HNO := Lib.hid hneo
      have HNH := Lib.hid hneh
      have HNB := Lib.hid hneb
      subst hAe
      have hkeep : ∀ w', KeptB wr w' (w.heap.size + 1 + 1) w.heap.size b2 (Value.slice OA j oc).ownBlock → w'.cell? ⟨w.heap.size, 0, none⟩ = some (.slice (some ⟨b2, off, none⟩) n cap) ∧ w'.cell? ⟨b2, off + j * 6, none⟩ = some (.int .i64 x0) ∧ w'.cell? ⟨b2, off + j * 6 + 1, none⟩ = some (.int .i64 x1) ∧ w'.cell? ⟨b2, off + j * 6 + 2, none⟩ = some (.string x2) ∧ w'.cell? ⟨b2, off + j * 6 + 3, none⟩ = some (.int .u64 x3) ∧ w'.cell? ⟨b2, off + j * 6 + 4, none⟩ = some (.bool x4) ∧ w'.cell? ⟨b2, off + j * 6 + 5, none⟩ = some (.bool x5) := fun w' hb => ⟨(hb.cg 0).trans t0, (hb.ch (off + j * 6)).trans d0, (hb.ch (off + j * 6 + 1)).trans d1, (hb.ch (off + j * 6 + 2)).trans d2, (hb.ch (off + j * 6 + 3)).trans d3, (hb.ch (off + j * 6 + 4)).trans d4, (hb.ch (off + j * 6 + 5)).trans d5⟩
      have hks2 : ∀ (w' : World) (i : Nat) (v : Value), (w'.cell? ⟨w.heap.size, 0, none⟩ = some (.slice (some ⟨b2, off, none⟩) n cap) ∧ w'.cell? ⟨b2, off + j * 6, none⟩ = some (.int .i64 x0) ∧ w'.cell? ⟨b2, off + j * 6 + 1, none⟩ = some (.int .i64 x1) ∧ w'.cell? ⟨b2, off + j * 6 + 2, none⟩ = some (.string x2) ∧ w'.cell? ⟨b2, off + j * 6 + 3, none⟩ = some (.int .u64 x3) ∧ w'.cell? ⟨b2, off + j * 6 + 4, none⟩ = some (.bool x4) ∧ w'.cell? ⟨b2, off + j * 6 + 5, none⟩ = some (.bool x5)) → (w'.setCell ⟨w.heap.size + 1 + 1, i, none⟩ v).cell? ⟨w.heap.size, 0, none⟩ = some (.slice (some ⟨b2, off, none⟩) n cap) ∧ (w'.setCell ⟨w.heap.size + 1 + 1, i, none⟩ v).cell? ⟨b2, off + j * 6, none⟩ = some (.int .i64 x0) ∧ (w'.setCell ⟨w.heap.size + 1 + 1, i, none⟩ v).cell? ⟨b2, off + j * 6 + 1, none⟩ = some (.int .i64 x1) ∧ (w'.setCell ⟨w.heap.size + 1 + 1, i, none⟩ v).cell? ⟨b2, off + j * 6 + 2, none⟩ = some (.string x2) ∧ (w'.setCell ⟨w.heap.size + 1 + 1, i, none⟩ v).cell? ⟨b2, off + j * 6 + 3, none⟩ = some (.int .u64 x3) ∧ (w'.setCell ⟨w.heap.size + 1 + 1, i, none⟩ v).cell? ⟨b2, off + j * 6 + 4, none⟩ = some (.bool x4) ∧ (w'.setCell ⟨w.heap.size + 1 + 1, i, none⟩ v).cell? ⟨b2, off + j * 6 + 5, none⟩ = some (.bool x5) := by
        intro w' i v hs
        have c : ∀ (k i' : Nat), k ≠ w.heap.size + 1 + 1 → (w'.setCell ⟨w.heap.size + 1 + 1, i, none⟩ v).cell? ⟨k, i', none⟩ = w'.cell? ⟨k, i', none⟩ := fun k i' hk => by
          have := Below.heap_setCell w' ⟨w.heap.size + 1 + 1, i, none⟩ v k hk
          simp only [World.cell?, this]
        have q0 : w.heap.size ≠ w.heap.size + 1 + 1 := by omega
        have q1 : b2 ≠ w.heap.size + 1 + 1 := fun e => by
          have h1 : wr.heap[b2]? = some (.cells cs 42 fr) := hob
          rw [e, show wr.heap[w.heap.size + 1 + 1]? = _ from HKO.out] at h1
          simp only [Option.some.injEq, Obj.cells.injEq] at h1
          exact absurd h1.2.1 (by decide)
        exact ⟨(c _ _ q0).trans hs.1, (c _ _ q1).trans hs.2.1, (c _ _ q1).trans hs.2.2.1, (c _ _ q1).trans hs.2.2.2.1, (c _ _ q1).trans hs.2.2.2.2.1, (c _ _ q1).trans hs.2.2.2.2.2.1, (c _ _ q1).trans hs.2.2.2.2.2.2⟩
      have ht : ∀ w', KeptB wr w' (w.heap.size + 1 + 1) w.heap.size b2 (Value.slice OA j oc).ownBlock → w'.cell? ⟨w.heap.size + 1 + 1, 0, none⟩ = some (.slice OA j oc) ∧ w'.frozen? ⟨w.heap.size + 1 + 1, 0, none⟩ = false := fun w' hb => ⟨(hb.cb 0).trans p4, (hb.fb 0).trans fz4⟩
      have hbk : ∀ w', Below wr.heap.size wr w' → KeptB wr w' (w.heap.size + 1 + 1) w.heap.size b2 (Value.slice OA j oc).ownBlock := fun w' hb => ⟨hb.block _ hlo, hb.block _ hl0, hb.block _ hl2⟩
      have hlo' := hlo
      have HKP := Lib.hid hkeep
      have HKS' := Lib.hid hks2
      have HTB := Lib.hid ht
      have HBK := Lib.hid hbk
      clear hkeep hks2 ht hbk htk hone hneo hneh hneb hcell hRW hlk
      have HOB := Lib.hid hob
      clear hob hx
      go_upto_region 5 with fail
      rw [show Op.load 45 (Operand.tmp 19) = ldA from rfl]
      go_region_held3 (fun w' => w'.cell? ⟨w.heap.size, 0, none⟩ = some (.slice (some ⟨b2, off, none⟩) n cap) ∧ w'.cell? ⟨b2, off + j * 6, none⟩ = some (.int .i64 x0) ∧ w'.cell? ⟨b2, off + j * 6 + 1, none⟩ = some (.int .i64 x1) ∧ w'.cell? ⟨b2, off + j * 6 + 2, none⟩ = some (.string x2) ∧ w'.cell? ⟨b2, off + j * 6 + 3, none⟩ = some (.int .u64 x3) ∧ w'.cell? ⟨b2, off + j * 6 + 4, none⟩ = some (.bool x4) ∧ w'.cell? ⟨b2, off + j * 6 + 5, none⟩ = some (.bool x5))
        (first | with_reducible exact HKP.out _ (HBK.out _ (below_drew1 (Below.refl _ _))) | with_reducible exact HKP.out _ hkb5 | with_reducible exact HKP.out _ hka5 | with_reducible exact HKP.out _ hkd5 | with_reducible exact HKP.out _ hkb6 | with_reducible exact HKS'.out _ _ _ (HKP.out _ hkb6) | fail)
        (first
          | (go_at_call 37; refine (HLK.out _).mono ?_; (rintro e w5 ⟨rfl, hb5⟩; have hbl5 : Below wr.heap.size wr w5 := (by first | exact (below_drew1 (Below.refl _ _)).trans hb5 | exact hb5); have hkb5 : KeptB wr w5 (w.heap.size + 1 + 1) w.heap.size b2 (Value.slice OA j oc).ownBlock := HBK.out _ hbl5; have hka5 : KeptB wr (w5.alloc (.cells #[.int .i64 x0, .int .i64 x1, .string x2, .int .u64 x3, .bool x4, .bool x5] 85)) (w.heap.size + 1 + 1) w.heap.size b2 (Value.slice OA j oc).ownBlock := HBK.out _ (below_alloc hbl5 _); have hkd5 : KeptB wr (w5.alloc (.cells #[.int .i64 x0, .int .i64 x1, .string x2, .int .u64 x3, .bool x4, .bool x5] 85)).drew (w.heap.size + 1 + 1) w.heap.size b2 (Value.slice OA j oc).ownBlock := HBK.out _ (below_drew1 (below_alloc hbl5 _)); have r5 := (HTB.out _ hkb5).1; have ra5 := (HTB.out _ hka5).1))
          | (refine step_append_own2 _ rfl _ _ 45 (by rfl) w.heap.size 85 i0 _ 6 48 Tryd.underlying45 HI0.out HZ0.out HZ1.out HZ2.out (by rfl) (by decide) (.slice OA j oc) j (flatE encN (l.take j)) (by rfl) (pw_own_below HO.out (below_alloc hbl5 _)) ⟨w5.heap.size, 0, none⟩ 1 1 (#[.int .i64 x0, .int .i64 x1, .string x2, .int .u64 x3, .bool x4, .bool x5] : Array Value).toList (by rfl) (by rfl) (World.news_of_block (heap_alloc_new w5 _)) HON.out (by unfold maxLen; omega) (by omega) (by have := hbl5.size; simp; omega) ?_; (intro v6 w6 hown6 hg6 hv6; obtain ⟨g6, c6, e6, hb6⟩ := own_formS hown6; subst e6; have hkb6 : KeptB wr w6 (w.heap.size + 1 + 1) w.heap.size b2 (Value.slice OA j oc).ownBlock := KeptB.grown hka5 hg6 (by have := hbl5.size; simp; omega) (by have := hbl5.size; simp; omega) (by have := hbl5.size; simp; omega) HNO.out HNH.out HNB.out; have HO6 := Lib.hid hown6; have HG6 := Lib.hid hg6; obtain ⟨r4, y4⟩ := HTB.out _ hkb6; clear hg6 hown6 hv6))
          | fail)
      all_goals obtain ⟨z1, z2, z3, z4, z5⟩ := as_end HKO.out hkb6 (below_alloc hbl5 _) HG6.out HO.out HO6.out HR.out HB.out.size (by omega)
      all_goals have HNEW := Lib.hid (show _ ∧ _ ∧ _ ∧ _ ∧ _ ∧ _ from ⟨z2, z1, z5 _ _ _ HK0.out (by omega) (by decide), z5 _ _ _ HK1.out (by omega) (by decide), z3, HB.out.trans z4⟩)
      all_goals clear z1 z2 z3 z4 z5
      all_goals go_wp2_with fail
      all_goals go_roundg (gk - 1)
      all_goals first | omega | exact ⟨j + 1, some ⟨g6, 0, none⟩, c6, by omega, by go_num, Lib.hid (by rw [HTK.out]; exact HNEW.out.1), Lib.hid HNEW.out.2.1, Lib.hid HNEW.out.2.2.1, Lib.hid HNEW.out.2.2.2.1, Lib.hid HNEW.out.2.2.2.2.1, Lib.hid HNEW.out.2.2.2.2.2⟩
    · obtain rfl : j = n := by omega
      have hrow := rowAt_own encN_len (show wr.ownsRow w.heap.size 85 6 (.slice OA (l.take j).length oc) (l.take j).length (flatE encN (l.take j)) by rw [List.length_take, HN.out, Nat.min_self]; exact HO.out)
      rw [← HN.out, List.take_length] at hrow
      have HRW := Lib.hid hrow
      clear hrow HO
      have o0 : wr.cell? ⟨w.heap.size + 1 + 1, 0, none⟩ = some (.slice OA j oc) := (HKO.out.cell 0).trans rfl
      have o1 : wr.cell? ⟨w.heap.size + 1 + 1, 1, none⟩ = some (.int .i64 lv) := (HKO.out.cell 1).trans rfl
      have o2 : wr.cell? ⟨w.heap.size + 1 + 1, 2, none⟩ = some (.int .i64 nx) := (HKO.out.cell 2).trans rfl
      have o3 : wr.cell? ⟨w.heap.size + 1 + 1, 3, none⟩ = some (.int .u64 nw) := (HKO.out.cell 3).trans rfl
      have r0 : wr.cell? ⟨w.heap.size + 1, 0, none⟩ = some (.slice none 0 0) := (HK1.out.cell 0).trans rfl
      have r1 : wr.cell? ⟨w.heap.size + 1, 1, none⟩ = some (.int .i64 0) := (HK1.out.cell 1).trans rfl
      have r2 : wr.cell? ⟨w.heap.size + 1, 2, none⟩ = some (.int .i64 0) := (HK1.out.cell 2).trans rfl
      have r3 : wr.cell? ⟨w.heap.size + 1, 3, none⟩ = some (.int .u64 0) := (HK1.out.cell 3).trans rfl
      have f0 := HK1.out.frozen 0
      have f1 := HK1.out.frozen 1
      have f2 := HK1.out.frozen 2
      have f3 := HK1.out.frozen 3
      go_wp2_with fail
      have h3 := ((((((((HK1.out).set_ 0 (.slice OA j oc))).set_ 1 (.int .i64 lv))).set_ 2 (.int .i64 nx))).set_ 3 (.int .u64 nw))
      refine bodyPost_ret (results_cell_row rfl _ _ (w.heap.size + 1) _ _ _ _ rfl h3 Tryd.underlying47 rfl (by rw [rt_info]; rfl)) rfl ?_
      refine ⟨_, rfl, ⟨OA, oc, by dsimp only; rw [HN.out]; rfl, (((HRW.out.setB HK1.out (by decide) 0 _).setB (HK1.out.set_ 0 _) (by decide) 1 _).setB ((HK1.out.set_ 0 _).set_ 1 _) (by decide) 2 _).setB (((HK1.out.set_ 0 _).set_ 1 _).set_ 2 _) (by decide) 3 _⟩, ?_⟩
      repeat (refine below_set ?_ (by omega))
      exact HB.out
end Go.Proofs.YtfdhehjfbcddgaaDoor.Pr
end
section
namespace Go.Proofs.YtfdhehjfbcddgaaDoor.Pr
open Go.RowKit Go.Proofs.YtfdhehjfbcddgaaDoorW.PrintWords Go.Proofs.YtfdhehjfbcddgaaDoorW.PrintLast Go.Proofs.YtfdhehjfbcddgaaDoor
set_option linter.unusedVariables false
theorem refs_get {w : World} {b off : Nat} {l : List Nd} (h : ∀ j u, (flatE encN l)[j]? = some u → w.cell? ⟨b, off + j, none⟩ = some u) (i : Nat) (hi : i < l.length) :
    w.cell? ⟨b, off + i * 6, none⟩ = some (.int .i64 l[i].id) ∧ w.cell? ⟨b, off + i * 6 + 1, none⟩ = some (.int .i64 l[i].par) ∧ w.cell? ⟨b, off + i * 6 + 2, none⟩ = some (.string l[i].name) ∧ w.cell? ⟨b, off + i * 6 + 3, none⟩ = some (.int .u64 l[i].time) ∧ w.cell? ⟨b, off + i * 6 + 4, none⟩ = some (.bool l[i].ghost) ∧ w.cell? ⟨b, off + i * 6 + 5, none⟩ = some (.bool l[i].pin) := nodes_get h i hi
set_option maxRecDepth 100000 in
set_option maxHeartbeats 8000000 in
theorem same_any (A : Option Addr) (cap : Nat) (l : List Nd) (lv nx nw : Int) (B : Option Addr) (cb : Nat) (w : World) (hl : l.length ≤ 1000000) (hr : NodesAt w A l) (hq : RefsAt w B l) :
    Calls Tryd.prog 15 #[.agg #[.slice A l.length cap, .int .i64 lv, .int .i64 nx, .int .u64 nw], .agg #[.slice B l.length cb, .int .i64 lv, .int .i64 nx, .int .u64 nw]] w fun e w' => e = .returned (.bool true) ∧ Below w.heap.size w w' := by
  obtain ⟨n, hn⟩ : ∃ n, l.length = n := ⟨_, rfl⟩
  have HN := Lib.hid hn
  rw [hn] at hl ⊢
  have hbel : Below w.heap.size w ((w.alloc (.cells #[.slice A n cap, .int .i64 lv, .int .i64 nx, .int .u64 nw] 28)).alloc (.cells #[.slice B n cb, .int .i64 lv, .int .i64 nx, .int .u64 nw] 47)) := ((Below.refl _ _).alloc (Nat.le_refl _) _).alloc (by simp) _
  have hk0 : Blk ((w.alloc (.cells #[.slice A n cap, .int .i64 lv, .int .i64 nx, .int .u64 nw] 28)).alloc (.cells #[.slice B n cb, .int .i64 lv, .int .i64 nx, .int .u64 nw] 47)) w.heap.size 28 #[.slice A n cap, .int .i64 lv, .int .i64 nx, .int .u64 nw] := (Blk.new w 28 #[.slice A n cap, .int .i64 lv, .int .i64 nx, .int .u64 nw]).alloc _
  have hk1 : Blk ((w.alloc (.cells #[.slice A n cap, .int .i64 lv, .int .i64 nx, .int .u64 nw] 28)).alloc (.cells #[.slice B n cb, .int .i64 lv, .int .i64 nx, .int .u64 nw] 47)) (w.heap.size + 1) 47 #[.slice B n cb, .int .i64 lv, .int .i64 nx, .int .u64 nw] := blk_new1 w _ _ _
  have hr0 := hr.below hbel
  have hq0 := hq.below hbel
  clear hr hn hq
  go_enter Tryd.func15, Tryd.ntmps15
  go_upto_region 1 with fail
  generalize ((w.alloc (.cells #[.slice A n cap, .int .i64 lv, .int .i64 nx, .int .u64 nw] 28)).alloc (.cells #[.slice B n cb, .int .i64 lv, .int .i64 nx, .int .u64 nw] 47)) = w1 at hbel hk0 hk1 hr0 hq0 ⊢
  have t0 : w1.cell? ⟨w.heap.size, 0, none⟩ = some (.slice A n cap) := (hk0.cell 0).trans rfl
  have t1 : w1.cell? ⟨w.heap.size, 1, none⟩ = some (.int .i64 lv) := (hk0.cell 1).trans rfl
  have t2 : w1.cell? ⟨w.heap.size, 2, none⟩ = some (.int .i64 nx) := (hk0.cell 2).trans rfl
  have t3 : w1.cell? ⟨w.heap.size, 3, none⟩ = some (.int .u64 nw) := (hk0.cell 3).trans rfl
  have r0 : w1.cell? ⟨w.heap.size + 1, 0, none⟩ = some (.slice B n cb) := (hk1.cell 0).trans rfl
  have r1 : w1.cell? ⟨w.heap.size + 1, 1, none⟩ = some (.int .i64 lv) := (hk1.cell 1).trans rfl
  have r2 : w1.cell? ⟨w.heap.size + 1, 2, none⟩ = some (.int .i64 nx) := (hk1.cell 2).trans rfl
  have r3 : w1.cell? ⟨w.heap.size + 1, 3, none⟩ = some (.int .u64 nw) := (hk1.cell 3).trans rfl
  have HB := Lib.hid hbel
  have HK0 := Lib.hid hk0
  have HK1 := Lib.hid hk1
  have HR := Lib.hid hr0
  have HQ := Lib.hid hq0
  clear hbel hk0 hk1 hr0 hq0
  go_wp2_with fail
  go_loopg [5] n (fun k v5 wr => ∃ (j : Nat), j + k = n ∧ v5 = .int .i64 (j : Int) ∧ Hid (Below w1.heap.size w1 wr))
  case atStart => exact ⟨0, by omega, rfl, Lib.hid (Below.refl _ _)⟩
  case round =>
    obtain ⟨j, hjk, rfl, HX⟩ := hrel
    have k0 := HK0.out.below HX.out HK0.out.lt
    have k1 := HK1.out.below HX.out HK1.out.lt
    have hl0 : w.heap.size < wr.heap.size := k0.lt
    have hlr : w.heap.size + 1 < wr.heap.size := k1.lt
    clear t0 t1 t2 t3 r0 r1 r2 r3
    by_cases hlt : j < n
    · have hjl : j < l.length := by rw [HN.out]; exact hlt
      obtain ⟨b2, off, rfl, ⟨cs, fr, hob⟩, hcell⟩ := (HR.out.below HX.out) (by omega)
      obtain ⟨d0, d1, d2, d3, d4, d5⟩ := nodes_get hcell j hjl
      have hl2 := obj_lt hob
      obtain ⟨b3, of3, rfl, ⟨cs3, fr3, hob3⟩, hcell3⟩ := (HQ.out.below HX.out) (by omega)
      obtain ⟨e0, e1, e2, e3, e4, e5⟩ := refs_get hcell3 j hjl
      have hl3 := obj_lt hob3
      have t0 : wr.cell? ⟨w.heap.size, 0, none⟩ = some (.slice (some ⟨b2, off, none⟩) n cap) := (k0.cell 0).trans rfl
      have r0 : wr.cell? ⟨w.heap.size + 1, 0, none⟩ = some (.slice (some ⟨b3, of3, none⟩) n cb) := (k1.cell 0).trans rfl
      obtain ⟨x, hx⟩ : ∃ x, l[j]'hjl = x := ⟨_, rfl⟩
      rw [hx] at d0 d1 d2 d3 d4 d5 e0 e1 e2 e3 e4 e5
      obtain ⟨x0, x1, x2, x3, x4, x5⟩ := x
      dsimp only at d0 d1 d2 d3 d4 d5 e0 e1 e2 e3 e4 e5
      have hlk := fun (wx : World) => link_any ⟨x0, x1, x2, x3, x4, x5⟩ wx
      unfold valN at hlk
      dsimp only at hlk
      have HLK := Lib.hid hlk
      have hkeep : ∀ w', Below wr.heap.size wr w' → w'.cell? ⟨w.heap.size, 0, none⟩ = some (.slice (some ⟨b2, off, none⟩) n cap) ∧ w'.cell? ⟨w.heap.size + 1, 0, none⟩ = some (.slice (some ⟨b3, of3, none⟩) n cb) ∧ w'.cell? ⟨b2, off + j * 6, none⟩ = some (.int .i64 x0) ∧ w'.cell? ⟨b2, off + j * 6 + 1, none⟩ = some (.int .i64 x1) ∧ w'.cell? ⟨b2, off + j * 6 + 2, none⟩ = some (.string x2) ∧ w'.cell? ⟨b2, off + j * 6 + 3, none⟩ = some (.int .u64 x3) ∧ w'.cell? ⟨b2, off + j * 6 + 4, none⟩ = some (.bool x4) ∧ w'.cell? ⟨b2, off + j * 6 + 5, none⟩ = some (.bool x5) ∧ w'.cell? ⟨b3, of3 + j * 6, none⟩ = some (.int .i64 x0) ∧ w'.cell? ⟨b3, of3 + j * 6 + 1, none⟩ = some (.int .i64 x1) ∧ w'.cell? ⟨b3, of3 + j * 6 + 2, none⟩ = some (.string x2) ∧ w'.cell? ⟨b3, of3 + j * 6 + 3, none⟩ = some (.int .u64 x3) ∧ w'.cell? ⟨b3, of3 + j * 6 + 4, none⟩ = some (.bool x4) ∧ w'.cell? ⟨b3, of3 + j * 6 + 5, none⟩ = some (.bool x5) := fun w' hb => ⟨(hb.cell (p := ⟨w.heap.size, 0, none⟩) hl0).trans t0, (hb.cell (p := ⟨w.heap.size + 1, 0, none⟩) hlr).trans r0, (hb.cell (p := ⟨b2, off + j * 6, none⟩) hl2).trans d0, (hb.cell (p := ⟨b2, off + j * 6 + 1, none⟩) hl2).trans d1, (hb.cell (p := ⟨b2, off + j * 6 + 2, none⟩) hl2).trans d2, (hb.cell (p := ⟨b2, off + j * 6 + 3, none⟩) hl2).trans d3, (hb.cell (p := ⟨b2, off + j * 6 + 4, none⟩) hl2).trans d4, (hb.cell (p := ⟨b2, off + j * 6 + 5, none⟩) hl2).trans d5, (hb.cell (p := ⟨b3, of3 + j * 6, none⟩) hl3).trans e0, (hb.cell (p := ⟨b3, of3 + j * 6 + 1, none⟩) hl3).trans e1, (hb.cell (p := ⟨b3, of3 + j * 6 + 2, none⟩) hl3).trans e2, (hb.cell (p := ⟨b3, of3 + j * 6 + 3, none⟩) hl3).trans e3, (hb.cell (p := ⟨b3, of3 + j * 6 + 4, none⟩) hl3).trans e4, (hb.cell (p := ⟨b3, of3 + j * 6 + 5, none⟩) hl3).trans e5⟩
      have HKP := Lib.hid hkeep
      have hself : (x2.toList == x2.toList) = true := by simp
      clear hkeep hlk hcell hcell3 hob hob3 hx k0 k1
      go_upto_region 6 with fail
      go_region_held3 (fun w' => w'.cell? ⟨w.heap.size, 0, none⟩ = some (.slice (some ⟨b2, off, none⟩) n cap) ∧ w'.cell? ⟨w.heap.size + 1, 0, none⟩ = some (.slice (some ⟨b3, of3, none⟩) n cb) ∧ w'.cell? ⟨b2, off + j * 6, none⟩ = some (.int .i64 x0) ∧ w'.cell? ⟨b2, off + j * 6 + 1, none⟩ = some (.int .i64 x1) ∧ w'.cell? ⟨b2, off + j * 6 + 2, none⟩ = some (.string x2) ∧ w'.cell? ⟨b2, off + j * 6 + 3, none⟩ = some (.int .u64 x3) ∧ w'.cell? ⟨b2, off + j * 6 + 4, none⟩ = some (.bool x4) ∧ w'.cell? ⟨b2, off + j * 6 + 5, none⟩ = some (.bool x5) ∧ w'.cell? ⟨b3, of3 + j * 6, none⟩ = some (.int .i64 x0) ∧ w'.cell? ⟨b3, of3 + j * 6 + 1, none⟩ = some (.int .i64 x1) ∧ w'.cell? ⟨b3, of3 + j * 6 + 2, none⟩ = some (.string x2) ∧ w'.cell? ⟨b3, of3 + j * 6 + 3, none⟩ = some (.int .u64 x3) ∧ w'.cell? ⟨b3, of3 + j * 6 + 4, none⟩ = some (.bool x4) ∧ w'.cell? ⟨b3, of3 + j * 6 + 5, none⟩ = some (.bool x5))
        (first | exact HKP.out _ (below_drew1 (Below.refl _ _)) | exact HKP.out _ hbl5 | fail)
        (first
          | (go_at_call 37; refine (HLK.out _).mono ?_; (rintro e w5 ⟨rfl, hb5⟩; have hbl5 : Below wr.heap.size wr w5 := (by first | exact (below_drew1 (Below.refl _ _)).trans hb5 | exact hb5)))
          | fail)
      all_goals have HB5 := Lib.hid hbl5
      all_goals clear hbl5
      all_goals go_wp2_with fail
      all_goals go_roundg (gk - 1)
      all_goals first | omega | exact ⟨j + 1, by omega, by go_num, Lib.hid (HX.out.trans (HB5.out.mono HX.out.size))⟩
    · obtain rfl : j = n := by omega
      have t0 : wr.cell? ⟨w.heap.size, 0, none⟩ = some (.slice A j cap) := (k0.cell 0).trans rfl
      clear k0 k1
      go_wp2_with fail
      go_ret
      exact ⟨rfl, HB.out.trans (HX.out.mono HB.out.size)⟩
end Go.Proofs.YtfdhehjfbcddgaaDoor.Pr
end
