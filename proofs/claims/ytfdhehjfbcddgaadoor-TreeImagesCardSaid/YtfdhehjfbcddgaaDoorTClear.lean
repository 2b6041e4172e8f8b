/- (*planner).clear: takes the ghosts without kids away. Conditions: the tree is right, no name is longer than a million; so many steps as fit. -/
import Derived.Test.YtfdhehjfbcddgaaDoorTDo
import Derived.Test.YtfdhehjfbcddgaaDoorTDown
import Derived.Deep.LoopGhost
section
namespace Go.Proofs.YtfdhehjfbcddgaaDoor.Pr
open Go.RowKit Go.Proofs.YtfdhehjfbcddgaaDoorW.PrintWords Go.Proofs.YtfdhehjfbcddgaaDoorW.PrintLast Go.Proofs.YtfdhehjfbcddgaaDoor
set_option linter.unusedVariables false
set_option maxRecDepth 100000 in
set_option maxHeartbeats 4000000 in
theorem idle_any (x : Nd) (c b : Nat) (A : Option Addr) (cap : Nat) (l : List Nd) (lv nx nw : Int) (V4 V5 : Value) (w : World) (hl : l.length ≤ 1000000) (hr : NodesAt w A l) (hc : Blk w c 94 #[.pointer (some ⟨b, 0, none⟩)]) (hk : Blk w b 96 #[.slice A l.length cap, .int .i64 lv, .int .i64 nx, .int .u64 nw, V4, V5]) :
    Calls Tryd.prog 73 #[valN x, .pointer (some ⟨c, 0, none⟩)] w fun e w' => e = .returned (.bool (idleB ⟨l, lv, nx, nw⟩ x)) ∧ Below w.heap.size w w' := by
  have hbn := (Below.refl w.heap.size w).alloc (Nat.le_refl _) (.cells #[.int .i64 x.id, .int .i64 x.par, .string x.name, .int .u64 x.time, .bool x.ghost, .bool x.pin] 42)
  have hx := Blk.new w 42 #[.int .i64 x.id, .int .i64 x.par, .string x.name, .int .u64 x.time, .bool x.ghost, .bool x.pin]
  have hkids := fun (a : Int) (w1 : World) (h1 : NodesAt w1 A l) => kids_any A cap l lv nx nw a w1 hl h1
  have hr1 := hr.below hbn
  have hc1 := hc.below hbn hc.lt
  have hk1 := hk.below hbn hk.lt
  have hid : idleB ⟨l, lv, nx, nw⟩ x = (x.ghost && decide ((kidsN l lv x.id).length = 0)) := rfl
  obtain ⟨R, hR⟩ : ∃ R, idleB ⟨l, lv, nx, nw⟩ x = R := ⟨_, rfl⟩
  rw [hR] at hid ⊢
  obtain ⟨x0, x1, x2, x3, x4, x5⟩ := x
  dsimp only at hbn hx hr1 hc1 hk1 hid
  unfold valN
  dsimp only
  obtain ⟨h, hh⟩ : ∃ h, h = w.heap.size := ⟨_, rfl⟩
  have HH := Lib.hid hh
  obtain ⟨kn, hkn⟩ : ∃ kn, (kidsN l lv x0).length = kn := ⟨_, rfl⟩
  have hki := hkids x0
  rw [hkn] at hki hid
  obtain ⟨n, hn⟩ : ∃ n, l.length = n := ⟨_, rfl⟩
  rw [hn] at hl hk1 hki
  have HID := Lib.hid hid
  have HKI := Lib.hid hki
  have HB := Lib.hid hbn
  have HX := Lib.hid hx
  have HR := Lib.hid hr1
  have HC := Lib.hid hc1
  have HK := Lib.hid hk1
  clear hbn hx hkids hr1 hc1 hk1 hid hR hh hkn hki hn hr hc hk
  go_enter Tryd.func73, Tryd.ntmps73
  go_upto_region 1 with fail
  rw [← HH.out] at HX ⊢
  generalize (w.alloc (.cells #[.int .i64 x0, .int .i64 x1, .string x2, .int .u64 x3, .bool x4, .bool x5] 42)) = w1 at HB HX HR HC HK ⊢
  have y0 : w1.cell? ⟨h, 0, none⟩ = some (.int .i64 x0) := (HX.out.cell 0).trans rfl
  have y4 : w1.cell? ⟨h, 4, none⟩ = some (.bool x4) := (HX.out.cell 4).trans rfl
  have cp : w1.cell? ⟨c, 0, none⟩ = some (.pointer (some ⟨b, 0, none⟩)) := (HC.out.cell 0).trans rfl
  have p0 : w1.cell? ⟨b, 0, none⟩ = some (.slice A n cap) := (HK.out.cell 0).trans rfl
  have p1 : w1.cell? ⟨b, 1, none⟩ = some (.int .i64 lv) := (HK.out.cell 1).trans rfl
  have p2 : w1.cell? ⟨b, 2, none⟩ = some (.int .i64 nx) := (HK.out.cell 2).trans rfl
  have p3 : w1.cell? ⟨b, 3, none⟩ = some (.int .u64 nw) := (HK.out.cell 3).trans rfl
  have hlt1 : h < w1.heap.size := HX.out.lt
  have hlt2 : c < w1.heap.size := HC.out.lt
  have hlt3 : b < w1.heap.size := HK.out.lt
  cases x4 with
  | false =>
    have hR : R = false := by rw [HID.out, Bool.false_and]
    subst hR
    have f4 := fun p : Behind w1 => p.cell y4
    clear y0 y4 cp p0 p1 p2 p3
    refine wp_region_behind (by kernel_rfl) (by kernel_rfl) ?_
    repeat (go_big_quiet_step (fail))
    refine wpQuiet_nil ?_
    intro w6 hb6
    have HB6 := Lib.hid (HB.out.trans (hb6.mono HB.out.size))
    clear f4
    go_wp2
    go_ret
    exact ⟨rfl, HB6.out⟩
  | true =>
    have hkeep : ∀ w', Below w1.heap.size w1 w' → w'.cell? ⟨h, 0, none⟩ = some (.int .i64 x0) ∧ w'.cell? ⟨h, 4, none⟩ = some (.bool true) ∧ w'.cell? ⟨c, 0, none⟩ = some (.pointer (some ⟨b, 0, none⟩)) ∧ w'.cell? ⟨b, 0, none⟩ = some (.slice A n cap) ∧ w'.cell? ⟨b, 1, none⟩ = some (.int .i64 lv) ∧ w'.cell? ⟨b, 2, none⟩ = some (.int .i64 nx) ∧ w'.cell? ⟨b, 3, none⟩ = some (.int .u64 nw) := fun w' hb =>
      ⟨(hb.cell (p := ⟨h, 0, none⟩) hlt1).trans y0, (hb.cell (p := ⟨h, 4, none⟩) hlt1).trans y4, (hb.cell (p := ⟨c, 0, none⟩) hlt2).trans cp, (hb.cell (p := ⟨b, 0, none⟩) hlt3).trans p0, (hb.cell (p := ⟨b, 1, none⟩) hlt3).trans p1, (hb.cell (p := ⟨b, 2, none⟩) hlt3).trans p2, (hb.cell (p := ⟨b, 3, none⟩) hlt3).trans p3⟩
    have HKP := Lib.hid hkeep
    clear hkeep
    go_region_held3 (fun w' => w'.cell? ⟨h, 0, none⟩ = some (.int .i64 x0) ∧ w'.cell? ⟨h, 4, none⟩ = some (.bool true) ∧ w'.cell? ⟨c, 0, none⟩ = some (.pointer (some ⟨b, 0, none⟩)) ∧ w'.cell? ⟨b, 0, none⟩ = some (.slice A n cap) ∧ w'.cell? ⟨b, 1, none⟩ = some (.int .i64 lv) ∧ w'.cell? ⟨b, 2, none⟩ = some (.int .i64 nx) ∧ w'.cell? ⟨b, 3, none⟩ = some (.int .u64 nw))
      (first | with_reducible exact HKP.out _ (below_drew1 (Below.refl _ _)) | with_reducible exact HKP.out _ hbl5 | fail)
      (first
        | (go_at_call 30; refine (HKI.out _ ?_).mono ?_; (exact HR.out.below (below_drew1 (Below.refl _ _))); (rintro e w5 ⟨v5, rfl, ho5, hb5⟩; obtain ⟨A5, c5, rfl⟩ := own_formT ho5; have hbl5 : Below w1.heap.size w1 w5 := (below_drew1 (Below.refl _ _)).trans hb5; clear hb5 ho5))
        | fail)
    all_goals go_wp2_with fail
    all_goals go_ret
    all_goals exact ⟨ret_bool (by rw [HID.out, Bool.true_and]; rw [Bool.eq_iff_iff, decide_eq_true_eq]; simp), HB.out.trans (hbl5.mono HB.out.size)⟩
end Go.Proofs.YtfdhehjfbcddgaaDoor.Pr
end
section
namespace Go.Proofs.YtfdhehjfbcddgaaDoor.Pr
open Go.RowKit Go.Proofs.YtfdhehjfbcddgaaDoorW.PrintWords Go.Proofs.YtfdhehjfbcddgaaDoorW.PrintLast Go.Proofs.YtfdhehjfbcddgaaDoor
set_option linter.unusedVariables false
theorem KeepT.setNew {w w1 : World} (h : KeepT w w1) {b : Nat} (hb : w.heap.size ≤ b) (j : Nat) (v : Value) : KeepT w (w1.setCell ⟨b, j, none⟩ v) := by
  refine ⟨by have := h.1; simpa [World.setCell] using this, fun k cs' ty fr hk a1 a2 a3 => (Below.heap_setCell w1 ⟨b, j, none⟩ v k ?_).trans (h.2 k cs' ty fr hk a1 a2 a3)⟩
  have := obj_lt hk
  show k ≠ b
  omega
theorem lastIdle_some {t : Tr} : ∀ {k i : Nat}, lastIdle t k = some i → i < k ∧ idleB t (t.l.getD i zN) = true := by
  intro k
  induction k with
  | zero => intro i h; cases h
  | succ k ih =>
    intro i h
    rw [lastIdle] at h
    split at h
    · rename_i hc
      injection h with h
      subst h
      exact ⟨Nat.lt_succ_self _, hc⟩
    · obtain ⟨h1, h2⟩ := ih h
      exact ⟨by omega, h2⟩
theorem lastIdle_none {t : Tr} : ∀ {k : Nat}, lastIdle t k = none → ∀ j, j < k → idleB t (t.l.getD j zN) = false := by
  intro k
  induction k with
  | zero => intro _ j hj; omega
  | succ k ih =>
    intro h j hj
    rw [lastIdle] at h
    split at h
    · cases h
    · rename_i hc
      by_cases e : j = k
      · subst e
        cases hh : idleB t (t.l.getD j zN)
        · rfl
        · exact absurd hh hc
      · exact ih h j (by omega)
/-- a link without kids that is not the root is dropped -/
theorem apply_drop {t : Tr} (h : RightP t) {x : Nd} (hx : x ∈ t.l) (h1 : x.id ≠ 1) (hk : (kidsN t.l t.lv x.id).length = 0) : applyN t (st3 3 x.id 0) = (⟨t.l.filter (otherN x.id), t.lv, t.nx, t.nw⟩, 0) := by
  have hp := h.pos hx
  have hn := h.next x hx
  have ht := h.top
  have hst : stepB (st3 3 x.id 0) = true := (stepB_iff _).2 ⟨.inl rfl, by show (1 : Int) ≤ 3; decide, by show (3 : Int) ≤ 8; decide, by show 0 ≤ x.id; omega, by show x.id ≤ _; omega, by show (0 : Int) ≤ 0; decide, by show (0 : Int) ≤ _; decide⟩
  unfold applyN
  rw [if_neg (by rw [(right_iff t).2 h, hst]; simp [st3])]
  rw [if_neg (by simp [st3]), if_neg (by simp [st3]), if_neg (by simp [st3]), if_neg (by simp [st3]), if_neg (by simp [st3]), if_neg (by simp [st3])]
  unfold changeN
  have hf := find_mem h.srt hx rfl
  rw [show (st3 3 x.id 0).a = x.id from rfl, hf, if_neg (by simp), if_neg h1, if_neg (by simp [st3, hk]), if_pos (show (st3 3 x.id 0).kind = 3 from rfl)]
theorem drop_len {t : Tr} {x : Nd} (hx : x ∈ t.l) : (t.l.filter (otherN x.id)).length < t.l.length := by
  refine List.length_filter_lt_length_iff_exists.2 ⟨x, hx, ?_⟩
  unfold otherN; simp
theorem idle_drop {t : Tr} (h : RightP t) {i : Nat} (hi : i < t.l.length) (hd : idleB t (t.l.getD i zN) = true) : applyN t (st3 3 (t.l.getD i zN).id 0) = (⟨t.l.filter (otherN (t.l.getD i zN).id), t.lv, t.nx, t.nw⟩, 0) ∧ RightP ⟨t.l.filter (otherN (t.l.getD i zN).id), t.lv, t.nx, t.nw⟩ ∧ (t.l.filter (otherN (t.l.getD i zN).id)).length < t.l.length := by
  rw [getD_get hi] at hd ⊢
  unfold idleB at hd
  rw [Bool.and_eq_true, decide_eq_true_eq] at hd
  have hm : t.l[i] ∈ t.l := List.getElem_mem hi
  have h1 : t.l[i].id ≠ 1 := fun e => by
    have := (h.root hm e).2
    rw [hd.1] at this; cases this
  exact ⟨apply_drop h hm h1 hd.2, right_drop h h1 hd.2, drop_len hm⟩
def idxO : Option Nat → Int
  | none => -1
  | some i => (i : Int)
/-- the load of a tree's links (named, so that the walk of the region that draws takes it as it comes) -/
def ldC : Op := .load 25 (.tmp 34)
attribute [local go_sem] ldC
theorem clear_end {s : Ps} {k : Nat} (h : lastIdle s.t s.t.l.length = none) : clearN k s = s := by
  cases k with
  | zero => rfl
  | succ k => rw [clearN, h]
theorem clear_on {s : Ps} {k i : Nat} (h : lastIdle s.t s.t.l.length = some i) : clearN (k + 1) s = clearN k (doN s (st3 3 (s.t.l.getD i zN).id 0)) := by
  rw [clearN, h]
set_option maxRecDepth 100000 in
set_option maxHeartbeats 8000000 in
theorem clear_ps (we : World) (hT : Tabs we) (b : Nat) (s : Ps) (w : World) (hE : Below we.heap.size we w) (hp : PsAt w we.heap.size b s) (hS : SmallT s.t) (hR : RightP s.t) (hss : s.ss.length ≤ 1000000) :
    Calls Tryd.prog 46 #[.pointer (some ⟨b, 0, none⟩)] w fun e w' => ∃ v, e = .returned v ∧ PlAt w' v ⟨(clearN s.t.l.length s).ms, (clearN s.t.l.length s).ss⟩ ∧ Below we.heap.size we w' ∧ KeepT w w' := by
  have hbn : Below w.heap.size w ((w.alloc (.cells #[.pointer (some ⟨b, 0, none⟩)] 94)).alloc (.cells #[.slice none 0 0, .slice none 0 0] 33)) := ((Below.refl _ _).alloc (Nat.le_refl _) _).alloc (by simp) _
  have hc0 : Blk ((w.alloc (.cells #[.pointer (some ⟨b, 0, none⟩)] 94)).alloc (.cells #[.slice none 0 0, .slice none 0 0] 33)) w.heap.size 94 #[.pointer (some ⟨b, 0, none⟩)] := (Blk.new w _ _).alloc _
  have hz0 : Blk ((w.alloc (.cells #[.pointer (some ⟨b, 0, none⟩)] 94)).alloc (.cells #[.slice none 0 0, .slice none 0 0] 33)) (w.heap.size + 1) 33 #[.slice none 0 0, .slice none 0 0] := blk_new1 w _ _ _
  have hp0 := hp.below hbn
  have hE0 := hE.trans (hbn.mono hE.size)
  have hsz : we.heap.size ≤ w.heap.size := hE.size
  obtain ⟨D, hD⟩ : ∃ D, clearN s.t.l.length s = D := ⟨_, rfl⟩
  rw [hD]
  obtain ⟨n0, hn0⟩ : ∃ n0, s.t.l.length = n0 := ⟨_, rfl⟩
  have hst : s.t.l.length ≤ n0 ∧ clearN n0 s = D ∧ SmallT s.t ∧ RightP s.t ∧ s.ss.length + n0 ≤ 1000060 := ⟨by omega, by rw [← hn0]; exact hD, hS, hR, by have := hR.len; omega⟩
  have HST := Lib.hid hst
  have HTT := Lib.hid hT
  clear hst hD hS hR hT hp hE hn0
  go_enter Tryd.func46, Tryd.ntmps46
  go_upto_region 1 with fail
  have HKT := Lib.hid (KeepT.of_below hbn)
  generalize ((w.alloc (.cells #[.pointer (some ⟨b, 0, none⟩)] 94)).alloc (.cells #[.slice none 0 0, .slice none 0 0] 33)) = w1 at hbn hc0 hz0 hp0 hE0 HKT ⊢
  have HC := Lib.hid hc0
  have HZ := Lib.hid hz0
  have HP := Lib.hid hp0
  have HE := Lib.hid hE0
  have HBN := Lib.hid hbn
  clear hc0 hz0 hp0 hE0 hbn
  go_wp2_with fail
  go_loopg [] n0 (fun k wr => ∃ s' : Ps, Hid (s'.t.l.length ≤ k ∧ clearN k s' = D ∧ SmallT s'.t ∧ RightP s'.t ∧ s'.ss.length + k ≤ 1000060) ∧ Hid (PsAt wr we.heap.size b s') ∧ Hid (Below we.heap.size we wr) ∧ Hid (KeepT w1 wr))
  case atStart => exact ⟨s, HST, HP, HE, Lib.hid (KeepT.of_below (Below.refl _ _))⟩
  case round =>
    obtain ⟨s', hs', hp', hE', hk'⟩ := hrel
    obtain ⟨A, cap, MA, mc, SA, sc, hk, hc, hn, hm, hs, hB⟩ := hp'.out
    obtain ⟨⟨l, lv, nx, nw⟩, ms, ss⟩ := s'
    dsimp only at hk hc hn hm hs
    obtain ⟨n, hnn⟩ : ∃ n, l.length = n := ⟨_, rfl⟩
    have hn60 : n ≤ 60 := by have := hs'.out.2.2.2.1.len; dsimp only at this; omega
    have kc := hk'.out.blk HC.out (by decide) (by decide) (by decide)
    have kz := hk'.out.blk HZ.out (by decide) (by decide) (by decide)
    have hidl := fun (x : Nd) (wi : World) (hb : Below wr.heap.size wr wi) => idle_any x w.heap.size b A cap l lv nx nw (.slice MA ms.length mc) (.slice SA ss.length sc) wi (by omega) (hn.below hb) (kc.below hb kc.lt) (hk.below hb hk.lt)
    have q0 : wr.cell? ⟨w.heap.size, 0, none⟩ = some (.pointer (some ⟨b, 0, none⟩)) := (kc.cell 0).trans rfl
    have p0 : wr.cell? ⟨b, 0, none⟩ = some (.slice A l.length cap) := (hk.cell 0).trans rfl
    rw [hnn] at p0
    have HID := Lib.hid hidl
    have HN := Lib.hid hn
    have HNN := Lib.hid hnn
    have HKC := Lib.hid kc
    have HKZ := Lib.hid kz
    clear hk hc hn hm hs hB kc kz hidl hnn
    go_wp2_with fail
    go_loopw [4, 14] (fun v4 v14 wi => ∃ (j : Nat), j ≤ n ∧ v14 = .int .i64 (j : Int) ∧ v4 = .int .i64 (idxO (lastIdle ⟨l, lv, nx, nw⟩ j)) ∧ Hid (Below wr.heap.size wr wi)) (fun _ v14 _ => n - (intOf v14).toNat)
    case atStart => exact ⟨0, by omega, rfl, rfl, Lib.hid (Below.refl _ _)⟩
    case round =>
      obtain ⟨j, hj, rfl, rfl, hb⟩ := hrel
      clear q0 p0
      by_cases hlt : j < n
      · have hjl : j < l.length := by rw [HNN.out]; exact hlt
        obtain ⟨b2, off, rfl, ⟨cs, fr, hob⟩, hcell⟩ := HN.out (by omega)
        have hblt := obj_lt hob
        obtain ⟨hc0, hc1, hc2, hc3, hc4, hc5⟩ := nodes_get hcell j hjl
        have hli : lastIdle ⟨l, lv, nx, nw⟩ (j + 1) = if idleB ⟨l, lv, nx, nw⟩ l[j] = true then some j else lastIdle ⟨l, lv, nx, nw⟩ j := by rw [lastIdle, getD_get (show j < (Tr.l ⟨l, lv, nx, nw⟩).length from hjl)]
        obtain ⟨x, hx⟩ : ∃ x, l[j]'hjl = x := ⟨_, rfl⟩
        rw [hx] at hc0 hc1 hc2 hc3 hc4 hc5 hli
        have hcl := fun wi hw => HID.out x wi hw
        obtain ⟨y0, y1, y2, y3, y4, y5⟩ := x
        obtain ⟨q, hq⟩ : ∃ q, idleB ⟨l, lv, nx, nw⟩ ⟨y0, y1, y2, y3, y4, y5⟩ = q := ⟨_, rfl⟩
        rw [hq] at hcl hli
        unfold valN at hcl
        dsimp only at hc0 hc1 hc2 hc3 hc4 hc5 hcl
        have d0 := (hb.out.cell (p := ⟨b2, off + j * 6, none⟩) hblt).trans hc0
        have d1 := (hb.out.cell (p := ⟨b2, off + j * 6 + 1, none⟩) hblt).trans hc1
        have d2 := (hb.out.cell (p := ⟨b2, off + j * 6 + 2, none⟩) hblt).trans hc2
        have d3 := (hb.out.cell (p := ⟨b2, off + j * 6 + 3, none⟩) hblt).trans hc3
        have d4 := (hb.out.cell (p := ⟨b2, off + j * 6 + 4, none⟩) hblt).trans hc4
        have d5 := (hb.out.cell (p := ⟨b2, off + j * 6 + 5, none⟩) hblt).trans hc5
        have hb2 := hb.out.alloc hb.out.size (.cells #[.int .i64 y0, .int .i64 y1, .string y2, .int .u64 y3, .bool y4, .bool y5] 42)
        have HCW := Lib.hid (hcl _ hb2)
        have HB2 := Lib.hid hb2
        have HLI := Lib.hid hli
        clear hcell hc0 hc1 hc2 hc3 hc4 hc5 hx hob hb hb2 hcl hq hli
        obtain ⟨v4, hv4⟩ : ∃ v4, idxO (lastIdle ⟨l, lv, nx, nw⟩ j) = v4 := ⟨_, rfl⟩
        have HV4 := Lib.hid hv4
        rw [hv4]
        clear hv4
        go_wp2_with fail
        refine HCW.out.mono ?_
        rintro e w2 ⟨rfl, hb3⟩
        have HB3 := Lib.hid (HB2.out.trans (hb3.mono HB2.out.size))
        clear d0 d1 d2 d3 d4 d5 HCW HB2 hb3
        cases q with
        | true =>
          go_wp2
          go_roundw
          case rel => exact ⟨j + 1, by omega, by go_num, by rw [HLI.out]; simp [idxO], HB3⟩
          case measure => simp [intOf]; omega
        | false =>
          go_wp2
          go_roundw
          case rel => exact ⟨j + 1, by omega, by go_num, by rw [HLI.out]; simp [HV4.out], HB3⟩
          case measure => simp [intOf]; omega
      · obtain rfl : j = n := by omega
        have hpw := hp'.out.below hb.out
        have hkcw := HKC.out.below hb.out HKC.out.lt
        have hkzw := HKZ.out.below hb.out HKZ.out.lt
        have hEw := hE'.out.trans (hb.out.mono hE'.out.size)
        have hkw := hk'.out.trans (KeepT.of_below hb.out)
        have HPW := Lib.hid hpw
        have HCW := Lib.hid hkcw
        have HZW := Lib.hid hkzw
        have HEW := Lib.hid hEw
        have HKW := Lib.hid hkw
        have q0 : wr.cell? ⟨w.heap.size, 0, none⟩ = some (.pointer (some ⟨b, 0, none⟩)) := (hkcw.cell 0).trans rfl
        clear hpw hkcw hkzw hEw hkw hb HKC HKZ hE' hp' hk'
        cases hli : lastIdle ⟨l, lv, nx, nw⟩ j with
        | none =>
          have hfin : (⟨⟨l, lv, nx, nw⟩, ms, ss⟩ : Ps) = D := by
            have h1 := clear_end (s := ⟨⟨l, lv, nx, nw⟩, ms, ss⟩) (k := gk) (by dsimp only; rw [HNN.out]; exact hli)
            rw [← hs'.out.2.1, h1]
          subst hfin
          obtain ⟨A2, cap2, MA2, mc2, SA2, sc2, hk2, hc2, hn2, hm2, hs2, hB2⟩ := HPW.out
          dsimp only at hk2 hc2 hn2 hm2 hs2
          have rm := rowAt_own encM_len hm2
          have rs := rowAt_own encS_len hs2
          obtain ⟨km, hkm⟩ : ∃ km, ms.length = km := ⟨_, rfl⟩
          obtain ⟨ks, hks⟩ : ∃ ks, ss.length = ks := ⟨_, rfl⟩
          have HKM := Lib.hid hkm
          have HKS := Lib.hid hks
          rw [hkm, hks] at hk2
          have p4 : wr.cell? ⟨b, 4, none⟩ = some (.slice MA2 km mc2) := (hk2.cell 4).trans rfl
          have p5 : wr.cell? ⟨b, 5, none⟩ = some (.slice SA2 ks sc2) := (hk2.cell 5).trans rfl
          have z0 : wr.cell? ⟨w.heap.size + 1, 0, none⟩ = some (.slice none 0 0) := (HZW.out.cell 0).trans rfl
          have z1 : wr.cell? ⟨w.heap.size + 1, 1, none⟩ = some (.slice none 0 0) := (HZW.out.cell 1).trans rfl
          have f0 := HZW.out.frozen 0
          have f1 := HZW.out.frozen 1
          have RM := Lib.hid rm
          have RS := Lib.hid rs
          have hneg : (idxO none : Int) = -1 := rfl
          rw [hneg]
          clear hk2 hc2 hn2 hm2 hs2 hB2 rm rs hkm hks hli hneg
          go_wp2_with fail
          have h3 := (HZW.out.set_ 0 (.slice MA2 km mc2)).set_ 1 (.slice SA2 ks sc2)
          refine bodyPost_ret (results_cell_row rfl _ _ (w.heap.size + 1) _ _ _ _ rfl h3 Tryd.underlying33 rfl (by rw [pl_info]; rfl)) rfl ?_
          refine ⟨_, rfl, ⟨MA2, mc2, SA2, sc2, by dsimp only; rw [HKM.out, HKS.out]; rfl, (RM.out.setB HZW.out (by decide) 0 _).setB (HZW.out.set_ 0 _) (by decide) 1 _, (RS.out.setB HZW.out (by decide) 0 _).setB (HZW.out.set_ 0 _) (by decide) 1 _⟩, ?_, ?_⟩
          · exact (HEW.out.setCell (p := ⟨w.heap.size + 1, 0, none⟩) (by show we.heap.size ≤ w.heap.size + 1; omega) _).setCell (p := ⟨w.heap.size + 1, 1, none⟩) (by show we.heap.size ≤ w.heap.size + 1; omega) _
          · exact ((HKT.out.trans HKW.out).setNew (b := w.heap.size + 1) (by omega) 0 _).setNew (b := w.heap.size + 1) (by omega) 1 _
        | some i =>
          obtain ⟨hij, hidle⟩ := lastIdle_some hli
          have hil : i < l.length := by rw [HNN.out]; exact hij
          obtain ⟨k', rfl⟩ : ∃ k', gk = k' + 1 := ⟨gk - 1, by have := hs'.out.1; change l.length ≤ gk at this; omega⟩
          obtain ⟨hap, hrt, hlen⟩ := idle_drop hs'.out.2.2.2.1 (i := i) hil hidle
          have hon := clear_on (s := ⟨⟨l, lv, nx, nw⟩, ms, ss⟩) (k := k') (i := i) (by dsimp only; rw [HNN.out]; exact hli)
          obtain ⟨xid, hxid⟩ : ∃ xid, (l.getD i zN).id = xid := ⟨_, rfl⟩
          dsimp only at hap hrt hlen hon
          rw [hxid] at hap hrt hlen hon
          have hdo : doN ⟨⟨l, lv, nx, nw⟩, ms, ss⟩ (st3 3 xid 0) = ⟨⟨l.filter (otherN xid), lv, nx, nw⟩, ms, ss ++ [st3 3 xid 0]⟩ := by
            unfold doN
            rw [hap, if_pos rfl]
          have hcall := do_ps we HTT.out b ⟨⟨l, lv, nx, nw⟩, ms, ss⟩ 3 xid 0 wr.drew (below_drew1 HEW.out) (HPW.out.below (below_drew1 (Below.refl _ _))) hs'.out.2.2.1 (by have := hs'.out.2.2.2.2; show ss.length ≤ _; change ss.length + (k' + 1) ≤ 1000060 at this; omega)
          have hsm := small_do (s := ⟨⟨l, lv, nx, nw⟩, ms, ss⟩) (st := st3 3 xid 0) hs'.out.2.2.1 (Nat.zero_le _)
          have hnew : (doN ⟨⟨l, lv, nx, nw⟩, ms, ss⟩ (st3 3 xid 0)).t.l.length ≤ k' ∧ clearN k' (doN ⟨⟨l, lv, nx, nw⟩, ms, ss⟩ (st3 3 xid 0)) = D ∧ SmallT (doN ⟨⟨l, lv, nx, nw⟩, ms, ss⟩ (st3 3 xid 0)).t ∧ RightP (doN ⟨⟨l, lv, nx, nw⟩, ms, ss⟩ (st3 3 xid 0)).t ∧ (doN ⟨⟨l, lv, nx, nw⟩, ms, ss⟩ (st3 3 xid 0)).ss.length + k' ≤ 1000060 := by
            have h1 := hs'.out.1
            have h5 := hs'.out.2.2.2.2
            try dsimp only at h1 h5
            refine ⟨?_, ?_, hsm, ?_, ?_⟩
            · rw [hdo]; show (l.filter (otherN xid)).length ≤ k'; omega
            · rw [← hon]; exact hs'.out.2.1
            · rw [hdo]; exact hrt
            · rw [hdo]; show (ss ++ [st3 3 xid 0]).length + k' ≤ 1000060; rw [List.length_append, List.length_singleton]; omega
          have HNEW := Lib.hid hnew
          have HCALL := Lib.hid hcall
          obtain ⟨A2, cap2, MA2, mc2, SA2, sc2, hk2, hc2, hn2, hm2, hs2, hB2⟩ := HPW.out
          dsimp only at hk2 hc2 hn2
          have p0 : wr.cell? ⟨b, 0, none⟩ = some (.slice A2 l.length cap2) := (hk2.cell 0).trans rfl
          rw [HNN.out] at p0
          obtain ⟨b2, off, rfl, ⟨cs, fr, hob⟩, hcell⟩ := hn2 (by omega)
          have hidc := (nodes_get hcell i hil).1
          rw [← getD_get hil, hxid] at hidc
          have hix : (idxO (some i) : Int) = (i : Int) := rfl
          rw [hix]
          have hblt2 : b < wr.heap.size := hk2.lt
          have hhlt2 : w.heap.size < wr.heap.size := HCW.out.lt
          have HOB := Lib.hid hob
          clear hli hidle hap hrt hlen hon hdo hcall hsm hnew hk2 hc2 hn2 hm2 hs2 hB2 hob hcell hix hxid
          go_upto_region 11 with fail
          rw [show Op.load 25 (Operand.tmp 34) = ldC from rfl]
          have hob0 : wr.heap[b2]? = some (.cells cs 42 fr) := HOB.out
          have hkeep : ∀ w' : World, w'.heap[w.heap.size]? = wr.heap[w.heap.size]? → w'.heap[b2]? = wr.heap[b2]? → w'.cell? ⟨w.heap.size, 0, none⟩ = some (.pointer (some ⟨b, 0, none⟩)) ∧ w'.cell? ⟨b2, off + i * 6, none⟩ = some (.int .i64 xid) := fun w' h1 h2 =>
            ⟨(World.cell?_of_block (a := ⟨w.heap.size, 0, none⟩) h1).trans q0, (World.cell?_of_block (a := ⟨b2, off + i * 6, none⟩) h2).trans hidc⟩
          have HKP := Lib.hid hkeep
          have KPD := Lib.hid (hkeep wr.drew rfl rfl)
          clear hkeep hob0
          go_region_held3 (fun w' => w'.cell? ⟨w.heap.size, 0, none⟩ = some (.pointer (some ⟨b, 0, none⟩)) ∧ w'.cell? ⟨b2, off + i * 6, none⟩ = some (.int .i64 xid))
            (first | with_reducible exact KPD.out | with_reducible exact HKP.out _ hka hkb | fail)
            (first
              | (go_at_call 45; refine HCALL.out.mono ?_; (rintro e w5 ⟨rfl, hp5, hE5, hk5⟩; have hka : w5.heap[w.heap.size]? = wr.heap[w.heap.size]? := (hk5.2 w.heap.size _ _ _ HCW.out (by decide) (by decide) (by decide)); have hkb : w5.heap[b2]? = wr.heap[b2]? := (hk5.2 b2 _ _ _ HOB.out (by decide) (by decide) (by decide)); have HP5 := Lib.hid hp5; have HE5 := Lib.hid hE5; have HK5 := Lib.hid (show KeepT wr w5 from hk5); clear hp5 hE5 hk5))
              | fail)
          all_goals go_wp2_with fail
          go_roundg k'
          case measure => omega
          case rel => exact ⟨_, HNEW, HP5, HE5, Lib.hid (HKW.out.trans HK5.out)⟩
end Go.Proofs.YtfdhehjfbcddgaaDoor.Pr
end
