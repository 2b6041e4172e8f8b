/- chain.Find: the first link of a number, by slices.IndexFunc over a closure. Condition: the links are not more than a million. -/
import Derived.Test.YtbeloaccgmgocaaHBase
import Derived.Test.YtbeloaccgmgocaaCellZero
namespace Go.Proofs.Ytbeloaccgmgocaa.Pr
open Go.RowKit Go.Proofs.YtbeloaccgmgocaaW.PrintWords Go.Proofs.YtbeloaccgmgocaaW.PrintLast Go.Proofs.Ytbeloaccgmgocaa
set_option linter.unusedVariables false
abbrev SL := S32
abbrev kL := k32
/-- a slice of links, link by link -/
def LinksAt (w : World) (A : Option Addr) (l : List SL) : Prop :=
  0 < l.length → ∃ b off, A = some ⟨b, off, none⟩ ∧ b < w.heap.size ∧ ∀ i (h : i < l.length), ∃ (B : Option Addr) (cap : Nat), w.cell? ⟨b, off + i * 4, none⟩ = some (.int .i64 l[i].f0) ∧ w.cell? ⟨b, off + i * 4 + 1, none⟩ = some (.int .i64 l[i].f1) ∧ w.cell? ⟨b, off + i * 4 + 2, none⟩ = some (.int .i64 l[i].f2.f0) ∧ w.cell? ⟨b, off + i * 4 + 3, none⟩ = some (.slice B l[i].f2.f1.length cap) ∧ l[i].f2.f1.length ≤ cap ∧ Kd.C kC w B l[i].f2.f1.length l[i].f2.f1
theorem linksAt_of_C {w : World} {A : Option Addr} {l : List SL} (h : Kd.C kL w A l.length l) : LinksAt w A l := by
  intro hp
  have hall : ∀ i (hi : i < l.length), ∃ (ad : Addr) (B : Option Addr) (cap : Nat), A = some ad ∧ w.cell? (ad.add (i * 4)) = some (.int .i64 l[i].f0) ∧ w.cell? ⟨(ad.add (i * 4)).block, (ad.add (i * 4)).off + 1, none⟩ = some (.int .i64 l[i].f1) ∧ w.cell? ⟨(ad.add (i * 4)).block, (ad.add (i * 4)).off + 2, none⟩ = some (.int .i64 l[i].f2.f0) ∧ w.cell? ⟨(ad.add (i * 4)).block, (ad.add (i * 4)).off + 3, none⟩ = some (.slice B l[i].f2.f1.length cap) ∧ l[i].f2.f1.length ≤ cap ∧ Kd.C kC w B l[i].f2.f1.length l[i].f2.f1 := by
    intro i hi
    obtain ⟨ad, B, cap, e, h0, h1, h2, h3, h4, h5⟩ := at_T32 h (i : Int) (by omega) (by omega)
    have hr : rd_T32 l (i : Int) = l[i] := by
      unfold rd_T32
      rw [Int.toNat_natCast, List.getD_eq_getElem?_getD, List.getElem?_eq_getElem hi]; rfl
    rw [hr] at h0 h1 h2 h3 h4 h5
    rw [Int.toNat_natCast] at h0 h1 h2 h3
    exact ⟨ad, B, cap, e, h0, h1, h2, h3, h4, h5⟩
  obtain ⟨a, _, _, ha, h00, _⟩ := hall 0 hp
  have hs : a.spot = none := by
    have h1 := World.cell?_spot h00
    unfold Addr.add at h1
    rw [if_pos (by omega)] at h1
    exact h1
  obtain ⟨b, off, spot⟩ := a
  simp only at hs
  subst hs
  have had : ∀ j, (⟨b, off, none⟩ : Addr).add j = ⟨b, off + j, none⟩ := fun j => by unfold Addr.add; split <;> simp_all
  refine ⟨b, off, ha, ?_, fun i hi => ?_⟩
  · rw [had] at h00; exact block_lt_of_cell h00
  · obtain ⟨ad, B, cap, e, h0, h1, h2, h3, h4, h5⟩ := hall i hi
    rw [ha] at e
    obtain rfl := Option.some.inj e
    rw [had] at h0 h1 h2 h3
    exact ⟨B, cap, h0, h1, h2, h3, h4, h5⟩
set_option maxRecDepth 100000 in
theorem find1_any (x0 x1 x2 a : Int) (v : Value) (c : Nat) (w : World) (hc : w.cell? ⟨c, 0, none⟩ = some (.int .i64 a)) :
    Calls Try.prog 70 #[.agg #[.int .i64 x0, .int .i64 x1, .int .i64 x2, v], .pointer (some ⟨c, 0, none⟩)] w fun e w' => e = .returned (.bool (x0 == a)) ∧ Below w.heap.size w w' := by
  have hlt := block_lt_of_cell hc
  go_enter Try.func70, Try.ntmps70
  go_wp2
  all_goals (go_ret; exact ⟨ret_bool (by first | rfl | simp_all), (Below.refl _ _).alloc (Nat.le_refl _) _⟩)
def idxL (l : List SL) (a : Int) : Int := match l.findIdx? (fun x => x.f0 == a) with | none => -1 | some i => (i : Int)
theorem idxL_none (l : List SL) (a : Int) (h : ∀ x ∈ l, (x.f0 == a) = false) : l.findIdx? (fun x => x.f0 == a) = none := by
  rw [List.findIdx?_eq_none_iff]; exact h
set_option maxRecDepth 100000 in
set_option maxHeartbeats 1600000 in
theorem indexL_any (A : Option Addr) (cap : Nat) (l : List SL) (a : Int) (c : Nat) (w : World) (hl : l.length ≤ 1000000) (hr : LinksAt w A l) (hc : w.cell? ⟨c, 0, none⟩ = some (.int .i64 a)) :
    Calls Try.prog 62 #[.slice A l.length cap, .func (.func 70) #[] #[.pointer (some ⟨c, 0, none⟩)]] w fun e w' => e = .returned (.int .i64 (idxL l a)) ∧ Below w.heap.size w w' := by
  obtain ⟨n, hn⟩ : ∃ n, l.length = n := ⟨_, rfl⟩
  have HR := Lib.hid hr
  have HN := Lib.hid hn
  have HC := Lib.hid hc
  have hclt := block_lt_of_cell hc
  rw [hn] at hl
  rw [hn]
  clear hr hn hc
  go_enter Try.func62, Try.ntmps62
  go_wp2_with fail
  go_loopw [8] (fun vj wr => ∃ (j : Nat), j ≤ n ∧ vj = .int .i64 j ∧ Hid (∀ i (h : i < l.length), i < j → (l[i].f0 == a) = false) ∧ Hid (Below w.heap.size w wr)) (fun vj _ => n - (intOf vj).toNat)
  case atStart => exact ⟨0, by omega, rfl, Lib.hid (fun i _ h => by omega), Lib.hid (Below.refl _ _)⟩
  case round =>
    obtain ⟨j, hjn, rfl, hp, hb⟩ := hrel
    by_cases hlt : j < n
    · obtain ⟨b, off, rfl, hblt, hcell⟩ := HR.out (by rw [HN.out]; omega)
      have hjl : j < l.length := by rw [HN.out]; exact hlt
      obtain ⟨B, cap2, hc0, hc1, hc2, hc3, _, _⟩ := hcell j hjl
      obtain ⟨x, hx⟩ : ∃ x, l[j]'hjl = x := ⟨_, rfl⟩
      rw [hx] at hc0 hc1 hc2 hc3
      have d0 := (hb.out.cell (p := ⟨b, off + j * 4, none⟩) hblt).trans hc0
      have d1 := (hb.out.cell (p := ⟨b, off + j * 4 + 1, none⟩) hblt).trans hc1
      have d2 := (hb.out.cell (p := ⟨b, off + j * 4 + 2, none⟩) hblt).trans hc2
      have d3 := (hb.out.cell (p := ⟨b, off + j * 4 + 3, none⟩) hblt).trans hc3
      have HX := Lib.hid hx
      obtain ⟨v3, hv3⟩ : ∃ v3, v3 = Value.slice B x.f2.f1.length cap2 := ⟨_, rfl⟩
      rw [← hv3] at d3
      have hcl := find1_any x.f0 x.f1 x.f2.f0 a v3 c wr ((hb.out.cell (p := ⟨c, 0, none⟩) hclt).trans HC.out)
      obtain ⟨y0, hy0⟩ : ∃ y, y = x.f0 := ⟨_, rfl⟩
      obtain ⟨y1, hy1⟩ : ∃ y, y = x.f1 := ⟨_, rfl⟩
      obtain ⟨y2, hy2⟩ : ∃ y, y = x.f2.f0 := ⟨_, rfl⟩
      rw [← hy0] at hcl d0
      rw [← hy1] at hcl d1
      rw [← hy2] at hcl d2
      obtain ⟨q, hq⟩ : ∃ q, q = (y0 == a) := ⟨_, rfl⟩
      rw [← hq] at hcl
      have HCL := Lib.hid hcl
      have HQ := Lib.hid hq
      have HY := Lib.hid hy0
      clear hcell hc0 hc1 hc2 hc3 hx hcl hq hv3 hy0 hy1 hy2
      go_wp2_with fail
      refine HCL.out.mono ?_
      rintro e w2 ⟨rfl, hb2⟩
      have HB2 := Lib.hid (hb.out.trans (hb2.mono hb.out.size))
      clear hb2
      go_wp2
      all_goals first
        | (go_ret
           refine ⟨?_, HB2.out⟩
           have hq1 : (y0 == a) = true := by rw [← HQ.out]; assumption
           unfold idxL
           have : l.findIdx? (fun x => x.f0 == a) = some j := by
             rw [List.findIdx?_eq_some_iff_getElem]
             refine ⟨hjl, by rw [HX.out, ← HY.out]; exact hq1, fun i hi => by rw [hp.out i (by omega) hi]; decide⟩
           rw [this]; rfl)
        | (have hq0 : (y0 == a) = false := by rw [← HQ.out]; assumption
           go_roundw
           case rel =>
             refine ⟨j + 1, by omega, by go_num, Lib.hid (fun i h hi => ?_), HB2⟩
             by_cases e : i = j
             · subst e; rw [HX.out, ← HY.out]; exact hq0
             · exact hp.out i h (by omega)
           case measure => simp [intOf]; omega)
    · go_wp2
      go_ret
      refine ⟨?_, hb.out⟩
      unfold idxL
      rw [idxL_none l a (fun x hx => by
        obtain ⟨i, hi, rfl⟩ := List.getElem_of_mem hx
        exact hp.out i hi (by rw [← HN.out] at hlt; omega))]
      rfl
theorem LinksAt.below {w w' : World} {A : Option Addr} {l : List SL} (h : LinksAt w A l) (hb : Below w.heap.size w w') : LinksAt w' A l := by
  intro hp
  obtain ⟨b, off, ha, hlt, hc⟩ := h hp
  refine ⟨b, off, ha, by have := hb.size; omega, fun i hi => ?_⟩
  obtain ⟨B, cap, h0, h1, h2, h3, h4, h5⟩ := hc i hi
  exact ⟨B, cap, (hb.cell (p := ⟨b, off + i * 4, none⟩) hlt).trans h0, (hb.cell (p := ⟨b, off + i * 4 + 1, none⟩) hlt).trans h1, (hb.cell (p := ⟨b, off + i * 4 + 2, none⟩) hlt).trans h2, (hb.cell (p := ⟨b, off + i * 4 + 3, none⟩) hlt).trans h3, h4, Kd.C_below h5 hb⟩
theorem ln_info : (Try.prog.info? 32).map (·.size) = some 4 := by kernel_rfl
/-- what a found link's cells are -/
def FoundAt (w : World) (x : SL) (B : Option Addr) (cap : Nat) : Prop := x.f2.f1.length ≤ cap ∧ Kd.C kC w B x.f2.f1.length x.f2.f1
set_option maxRecDepth 100000 in
set_option maxHeartbeats 1600000 in
theorem find_none (A : Option Addr) (cap : Nat) (l : List SL) (a : Int) (w : World) (hl : l.length ≤ 1000000) (hr : LinksAt w A l) (hn : l.findIdx? (fun x => x.f0 == a) = none) :
    Calls Try.prog 61 #[.slice A l.length cap, .int .i64 a] w fun e w' => e = .returned (.tuple #[.agg #[.int .i64 0, .int .i64 0, .int .i64 0, .slice none 0 0], .bool false]) ∧ Below w.heap.size w w' := by
  have hbel : Below w.heap.size w ((w.alloc (.cells #[.int .i64 a] 3)).alloc (.cells #[.int .i64 0, .int .i64 0, .int .i64 0, .slice none 0 0] 32)) := ((Below.refl _ _).alloc (Nat.le_refl _) _).alloc (by simp) _
  have hbox : ((w.alloc (.cells #[.int .i64 a] 3)).alloc (.cells #[.int .i64 0, .int .i64 0, .int .i64 0, .slice none 0 0] 32)).cell? ⟨w.heap.size, 0, none⟩ = some (.int .i64 a) := (((Blk.new w 3 #[.int .i64 a]).alloc _).cell 0).trans rfl
  have hcall := indexL_any A cap l a w.heap.size _ hl (hr.below hbel) hbox
  have hi : idxL l a = -1 := by unfold idxL; rw [hn]
  rw [hi] at hcall
  have HC := Lib.hid hcall
  have HB := Lib.hid hbel
  clear hcall hbox hbel hr hn hi
  go_enter Try.func61, Try.ntmps61
  go_wp2_with fail
  refine HC.out.mono ?_
  rintro e w1 ⟨rfl, hb1⟩
  have hk : Blk w1 (w.heap.size + 1) 32 #[.int .i64 0, .int .i64 0, .int .i64 0, .slice none 0 0] := by
    have h0 := Blk.new (w.alloc (.cells #[.int .i64 a] 3)) 32 #[.int .i64 0, .int .i64 0, .int .i64 0, .slice none 0 0]
    rw [show (w.alloc (.cells #[.int .i64 a] 3)).heap.size = w.heap.size + 1 by simp] at h0
    exact h0.below hb1 (by simp)
  have h2 := HB.out.trans (hb1.mono HB.out.size)
  have c0 := hk.cell 0
  have c1 := hk.cell 1
  have c2 := hk.cell 2
  have c3 := hk.cell 3
  have f0 := hk.frozen 0
  have f1 := hk.frozen 1
  have f2 := hk.frozen 2
  have f3 := hk.frozen 3
  rw [show (#[.int .i64 0, .int .i64 0, .int .i64 0, .slice none 0 0] : Array Value)[0]? = some (.int .i64 0) from rfl] at c0
  rw [show (#[.int .i64 0, .int .i64 0, .int .i64 0, .slice none 0 0] : Array Value)[1]? = some (.int .i64 0) from rfl] at c1
  rw [show (#[.int .i64 0, .int .i64 0, .int .i64 0, .slice none 0 0] : Array Value)[2]? = some (.int .i64 0) from rfl] at c2
  rw [show (#[.int .i64 0, .int .i64 0, .int .i64 0, .slice none 0 0] : Array Value)[3]? = some (.slice none 0 0) from rfl] at c3
  have HK := Lib.hid hk
  have H2 := Lib.hid h2
  clear hb1 h2 hk
  go_wp2_with fail
  have h3 := (((HK.out.set_ 0 (.int .i64 0)).set_ 1 (.int .i64 0)).set_ 2 (.int .i64 0)).set_ 3 (.slice none 0 0)
  refine bodyPost_ret (results_row_tmp rfl _ _ (w.heap.size + 1) _ _ _ _ rfl h3 Try.underlying32 rfl (by rw [ln_info]; rfl)) rfl ?_
  refine ⟨rfl, ?_⟩
  repeat (refine below_set ?_ (by omega))
  exact H2.out
set_option maxRecDepth 100000 in
set_option maxHeartbeats 1600000 in
theorem find_some (A : Option Addr) (cap : Nat) (l : List SL) (a : Int) (w0 w : World) (h0 : Below w0.heap.size w0 w) (hl : l.length ≤ 1000000) (hr : LinksAt w0 A l) (j : Nat) (hj : j < l.length) (hn : l.findIdx? (fun x => x.f0 == a) = some j) :
    Calls Try.prog 61 #[.slice A l.length cap, .int .i64 a] w fun e w' => ∃ (B : Option Addr) (c : Nat), e = .returned (.tuple #[.agg #[.int .i64 l[j].f0, .int .i64 l[j].f1, .int .i64 l[j].f2.f0, .slice B l[j].f2.f1.length c], .bool true]) ∧ FoundAt w0 l[j] B c ∧ Below w.heap.size w w' := by
  have hbel : Below w.heap.size w ((w.alloc (.cells #[.int .i64 a] 3)).alloc (.cells #[.int .i64 0, .int .i64 0, .int .i64 0, .slice none 0 0] 32)) := ((Below.refl _ _).alloc (Nat.le_refl _) _).alloc (by simp) _
  have hbox : ((w.alloc (.cells #[.int .i64 a] 3)).alloc (.cells #[.int .i64 0, .int .i64 0, .int .i64 0, .slice none 0 0] 32)).cell? ⟨w.heap.size, 0, none⟩ = some (.int .i64 a) := (((Blk.new w 3 #[.int .i64 a]).alloc _).cell 0).trans rfl
  have hcall := indexL_any A cap l a w.heap.size _ hl ((hr.below h0).below hbel) hbox
  have hi : idxL l a = (j : Int) := by unfold idxL; rw [hn]
  rw [hi] at hcall
  obtain ⟨b, off, rfl, hblt0, hcell⟩ := hr (by omega)
  obtain ⟨B, c, e0, e1, e2, e3, e4, e5⟩ := hcell j hj
  have hfound : FoundAt w0 l[j] B c := ⟨e4, e5⟩
  replace e0 := (h0.cell (p := ⟨b, off + j * 4, none⟩) hblt0).trans e0
  replace e1 := (h0.cell (p := ⟨b, off + j * 4 + 1, none⟩) hblt0).trans e1
  replace e2 := (h0.cell (p := ⟨b, off + j * 4 + 2, none⟩) hblt0).trans e2
  replace e3 := (h0.cell (p := ⟨b, off + j * 4 + 3, none⟩) hblt0).trans e3
  have hblt : b < w.heap.size := Nat.lt_of_lt_of_le hblt0 h0.size
  clear h0 hblt0 hr
  obtain ⟨y0, hy0⟩ : ∃ y, y = l[j].f0 := ⟨_, rfl⟩
  obtain ⟨y1, hy1⟩ : ∃ y, y = l[j].f1 := ⟨_, rfl⟩
  obtain ⟨y2, hy2⟩ : ∃ y, y = l[j].f2.f0 := ⟨_, rfl⟩
  obtain ⟨m, hm⟩ : ∃ m, m = l[j].f2.f1.length := ⟨_, rfl⟩
  suffices hs : Calls Try.prog 61 #[.slice (some ⟨b, off, none⟩) l.length cap, .int .i64 a] w fun e w' => e = .returned (.tuple #[.agg #[.int .i64 y0, .int .i64 y1, .int .i64 y2, .slice B m c], .bool true]) ∧ Below w.heap.size w w' by
    refine hs.mono ?_
    rintro e w' ⟨rfl, hb⟩
    exact ⟨B, c, by rw [hy0, hy1, hy2, hm], hfound, hb⟩
  rw [← hy0] at e0
  rw [← hy1] at e1
  rw [← hy2] at e2
  rw [← hm] at e3
  obtain ⟨n, hnl⟩ : ∃ n, l.length = n := ⟨_, rfl⟩
  rw [hnl] at hl hj hcall ⊢
  have HC := Lib.hid hcall
  have HB := Lib.hid hbel
  clear hcall hbox hbel hn hi hcell hfound hy0 hy1 hy2 hm e4 e5 hnl
  go_enter Try.func61, Try.ntmps61
  go_wp2_with fail
  refine HC.out.mono ?_
  rintro e w1 ⟨rfl, hb1⟩
  have hk : Blk w1 (w.heap.size + 1) 32 #[.int .i64 0, .int .i64 0, .int .i64 0, .slice none 0 0] := by
    have h0 := Blk.new (w.alloc (.cells #[.int .i64 a] 3)) 32 #[.int .i64 0, .int .i64 0, .int .i64 0, .slice none 0 0]
    rw [show (w.alloc (.cells #[.int .i64 a] 3)).heap.size = w.heap.size + 1 by simp] at h0
    exact h0.below hb1 (by simp)
  have h2 := HB.out.trans (hb1.mono HB.out.size)
  have d0 := (h2.cell (p := ⟨b, off + j * 4, none⟩) hblt).trans e0
  have d1 := (h2.cell (p := ⟨b, off + j * 4 + 1, none⟩) hblt).trans e1
  have d2 := (h2.cell (p := ⟨b, off + j * 4 + 2, none⟩) hblt).trans e2
  have d3 := (h2.cell (p := ⟨b, off + j * 4 + 3, none⟩) hblt).trans e3
  have c0 := hk.cell 0
  have c1 := hk.cell 1
  have c2 := hk.cell 2
  have c3 := hk.cell 3
  have f0 := hk.frozen 0
  have f1 := hk.frozen 1
  have f2 := hk.frozen 2
  have f3 := hk.frozen 3
  rw [show (#[.int .i64 0, .int .i64 0, .int .i64 0, .slice none 0 0] : Array Value)[0]? = some (.int .i64 0) from rfl] at c0
  rw [show (#[.int .i64 0, .int .i64 0, .int .i64 0, .slice none 0 0] : Array Value)[1]? = some (.int .i64 0) from rfl] at c1
  rw [show (#[.int .i64 0, .int .i64 0, .int .i64 0, .slice none 0 0] : Array Value)[2]? = some (.int .i64 0) from rfl] at c2
  rw [show (#[.int .i64 0, .int .i64 0, .int .i64 0, .slice none 0 0] : Array Value)[3]? = some (.slice none 0 0) from rfl] at c3
  have HK := Lib.hid hk
  have H2 := Lib.hid h2
  clear hb1 h2 hk e0 e1 e2 e3
  go_wp2_with fail
  have h3 := (((HK.out.set_ 0 (.int .i64 y0)).set_ 1 (.int .i64 y1)).set_ 2 (.int .i64 y2)).set_ 3 (.slice B m c)
  refine bodyPost_ret (results_row_tmp rfl _ _ (w.heap.size + 1) _ _ _ _ rfl h3 Try.underlying32 rfl (by rw [ln_info]; rfl)) rfl ?_
  refine ⟨rfl, ?_⟩
  repeat (refine below_set ?_ (by omega))
  exact H2.out
end Go.Proofs.Ytbeloaccgmgocaa.Pr
