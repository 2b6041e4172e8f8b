/- cell.Get and chain.through by hand: what is read through a row of links. Condition: lengths are those of slices. -/
import Derived.Test.YtbeloaccgmgocaaHChWhole
import Derived.Test.YtbeloaccgmgocaaHFlat
import Derived.Test.YtbeloaccgmgocaaHPlace
namespace Go.Proofs.Ytbeloaccgmgocaa.Pr
open Go.RowKit Go.Proofs.YtbeloaccgmgocaaW.PrintWords Go.Proofs.YtbeloaccgmgocaaW.PrintLast Go.Proofs.Ytbeloaccgmgocaa
set_option linter.unusedVariables false
def getB (l : List SC) (a : Int) : ByteArray × Bool := if hit l a = true then (textB (l.getD (plc l a) ⟨0, ⟨#[]⟩⟩).f1, true) else (⟨#[]⟩, false)
set_option maxRecDepth 100000 in
set_option maxHeartbeats 1600000 in
theorem get_any (c0 : Int) (A : Option Addr) (cap : Nat) (l : List SC) (a : Int) (w : World) (hl : l.length ≤ 140737488355328) (hr : Kd.C kC w A l.length l) (hcap : l.length ≤ cap) :
    Calls Try.prog 16 #[.agg #[.int .i64 c0, .slice A l.length cap], .int .i64 a] w fun e w' => e = .returned (.tuple #[.string (getB l a).1, .bool (getB l a).2]) ∧ Below w.heap.size w w' := by
  have hcat := cellsAt_of_C hr
  have hpl := fun (w1 : World) (h1 : Below w.heap.size w w1) => cell_Image_place.calls c0 A cap l a (plc l a : Int) (hit l a) w1 (Kd.C_below hr h1) hcap (by unfold cell_Image_place.f; rw [if_pos hl])
  obtain ⟨n, hn⟩ : ∃ n, n = l.length := ⟨_, rfl⟩
  rw [← hn] at hpl hl ⊢
  have hb0 := Blk.new w 26 #[.int .i64 c0, .slice A n cap]
  have hbel : Below w.heap.size w (w.alloc (.cells #[.int .i64 c0, .slice A n cap] 26)) := (Below.refl _ _).alloc (Nat.le_refl _) _
  have HPL := Lib.hid hpl
  have HCA := Lib.hid hcat
  have HN := Lib.hid hn
  have HB0 := Lib.hid hb0
  have HBEL := Lib.hid hbel
  clear hpl hcat hn hb0 hbel hr
  obtain ⟨q, hq⟩ : ∃ q, q = hit l a := ⟨_, rfl⟩
  rw [← hq] at HPL
  have hg : getB l a = if q = true then (textB (l.getD (plc l a) ⟨0, ⟨#[]⟩⟩).f1, true) else (⟨#[]⟩, false) := by rw [hq]; rfl
  have hlt : q = true → plc l a < n := fun h => by
    rw [hq] at h
    unfold hit at h
    rw [Bool.and_eq_true, decide_eq_true_eq] at h
    rw [HN.out]; exact h.1
  rw [hg]
  have HLT := Lib.hid hlt
  clear hq hg hlt
  cases q with
  | false =>
    rw [if_neg (by decide)]
    go_enter Try.func16, Try.ntmps16
    go_wp2_with fail
    refine (HPL.out _ HBEL.out).mono ?_
    rintro e w1 ⟨rfl, hb1⟩
    have H1 := Lib.hid (HBEL.out.trans (hb1.mono HBEL.out.size))
    clear hb1
    go_wp2_with fail
    go_ret2
    exact ⟨rfl, H1.out⟩
  | true =>
    rw [if_pos rfl]
    have hpn := HLT.out rfl
    have hpll : plc l a < l.length := by rw [← HN.out]; exact hpn
    obtain ⟨b, off, rfl, hblt, hcell⟩ := HCA.out (by omega)
    obtain ⟨e0, e1⟩ := hcell (plc l a) hpll
    have hx : l.getD (plc l a) ⟨0, ⟨#[]⟩⟩ = l[plc l a] := by rw [List.getD_eq_getElem?_getD, List.getElem?_eq_getElem hpll]; rfl
    rw [hx]
    obtain ⟨x, hxx⟩ : ∃ x, x = l[plc l a] := ⟨_, rfl⟩
    rw [← hxx] at e0 e1 ⊢
    obtain ⟨p, hp⟩ : ∃ p, p = plc l a := ⟨_, rfl⟩
    rw [← hp] at e0 e1 hpn HPL
    have ht := fun w => ctext_any x w
    obtain ⟨x0, h0⟩ : ∃ y, y = x.f0 := ⟨_, rfl⟩
    obtain ⟨x1, h1⟩ : ∃ y, y = x.f1 := ⟨_, rfl⟩
    rw [← h1]
    rw [← h0] at ht e0
    rw [← h1] at ht e1
    have HTX := Lib.hid ht
    clear hcell hx hxx hp ht h0 h1 hpll
    go_enter Try.func16, Try.ntmps16
    go_wp2_with fail
    refine (HPL.out _ HBEL.out).mono ?_
    rintro e w1 ⟨rfl, hb1⟩
    have d1 := (HB0.out.below hb1 HB0.out.lt).cell 1
    rw [show (#[Value.int IntKind.i64 c0, .slice (some ⟨b, off, none⟩) n cap] : Array Value)[1]? = some (.slice (some ⟨b, off, none⟩) n cap) from rfl] at d1
    have hb2 := HBEL.out.trans (hb1.mono HBEL.out.size)
    have k0 := (hb2.cell (p := ⟨b, off + p * 2, none⟩) hblt).trans e0
    have k1 := (hb2.cell (p := ⟨b, off + p * 2 + 1, none⟩) hblt).trans e1
    have H2 := Lib.hid hb2
    clear hb1 hb2 e0 e1
    go_wp2_with fail
    refine (HTX.out _).mono ?_
    rintro e w3 ⟨rfl, hb3⟩
    have H3 := Lib.hid (H2.out.trans (hb3.mono H2.out.size))
    clear hb3
    go_wp2_with fail
    go_ret2
    exact ⟨rfl, H3.out⟩
def throughL : List SL → Int → ByteArray
  | [], _ => ⟨(nts 16).toArray⟩
  | x :: r, a => if (getB x.f2.f1 a).2 = true then (getB x.f2.f1 a).1 else throughL r a
theorem throughL_drop (p : List SL) (a : Int) (k : Nat) (h : k < p.length) : throughL (p.drop k) a = if (getB p[k].f2.f1 a).2 = true then (getB p[k].f2.f1 a).1 else throughL (p.drop (k + 1)) a := by
  rw [List.drop_eq_getElem_cons h, throughL]
set_option maxRecDepth 100000 in
set_option maxHeartbeats 1600000 in
theorem through_any (A : Option Addr) (cap : Nat) (p : List SL) (a : Int) (w : World) (hl : p.length ≤ 2000000) (hr : LinksAt w A p) (hsz : sizedL p = true) :
    Calls Try.prog 26 #[.slice A p.length cap, .int .i64 a] w fun e w' => e = .returned (.string (throughL p a)) ∧ Below w.heap.size w w' := by
  obtain ⟨n, hn⟩ : ∃ n, n = p.length := ⟨_, rfl⟩
  have HR := Lib.hid hr
  have HN := Lib.hid hn
  have HS := Lib.hid hsz
  rw [← hn] at hl ⊢
  clear hr hn hsz
  go_enter Try.func26, Try.ntmps26
  go_wp2_with fail
  go_loopw [11] (fun vj wr => ∃ (j : Nat), j ≤ n ∧ vj = .int .i64 j ∧ Hid (throughL p a = throughL (p.drop j) a) ∧ Hid (Below w.heap.size w wr)) (fun vj _ => n - (intOf vj).toNat)
  case atStart => exact ⟨0, by omega, rfl, Lib.hid rfl, Lib.hid (Below.refl _ _)⟩
  case round =>
    obtain ⟨j, hjn, rfl, hp, hb⟩ := hrel
    by_cases hlt : j < n
    · obtain ⟨b, off, rfl, hblt, hcell⟩ := HR.out (by rw [← HN.out]; omega)
      have hjl : j < p.length := by rw [← HN.out]; exact hlt
      obtain ⟨B, cap2, hc0, hc1, hc2, hc3, hle, hkc⟩ := hcell j hjl
      have hsx := sizedL_at HS.out (p[j]'hjl) (List.getElem_mem hjl)
      have hstep := throughL_drop p a j hjl
      obtain ⟨x, hx⟩ : ∃ x, p[j]'hjl = x := ⟨_, rfl⟩
      rw [hx] at hc0 hc1 hc2 hc3 hkc hsx hle hstep
      have d0 := (hb.out.cell (p := ⟨b, off + j * 4, none⟩) hblt).trans hc0
      have d1 := (hb.out.cell (p := ⟨b, off + j * 4 + 1, none⟩) hblt).trans hc1
      have d2 := (hb.out.cell (p := ⟨b, off + j * 4 + 2, none⟩) hblt).trans hc2
      have d3 := (hb.out.cell (p := ⟨b, off + j * 4 + 3, none⟩) hblt).trans hc3
      have hg := fun (W : World) (h : Below w.heap.size w W) => get_any x.f2.f0 B cap2 x.f2.f1 a W (by have := hsx.1; omega) (Kd.C_below hkc h) hle
      obtain ⟨y0, hy0⟩ : ∃ y, y = x.f0 := ⟨_, rfl⟩
      obtain ⟨y1, hy1⟩ : ∃ y, y = x.f1 := ⟨_, rfl⟩
      obtain ⟨y2, hy2⟩ : ∃ y, y = x.f2.f0 := ⟨_, rfl⟩
      obtain ⟨m, hm⟩ : ∃ y, y = x.f2.f1.length := ⟨_, rfl⟩
      obtain ⟨gb, hgb⟩ : ∃ y, y = getB x.f2.f1 a := ⟨_, rfl⟩
      rw [← hgb] at hg hstep
      rw [← hy0] at d0
      rw [← hy1] at d1
      rw [← hy2] at d2 hg
      rw [← hm] at d3 hg
      obtain ⟨gs, gq⟩ := gb
      dsimp only at hg hstep
      have HG := Lib.hid hg
      have HST := Lib.hid (hp.out.trans hstep)
      clear hcell hc0 hc1 hc2 hc3 hx hg hgb hy0 hy1 hy2 hm hkc hsx hle hstep hp
      have hb2 : Below w.heap.size w (wr.alloc (.cells #[.int .i64 y0, .int .i64 y1, .int .i64 y2, .slice B m cap2] 32)) := hb.out.alloc hb.out.size _
      have hx2 := (Blk.new wr 32 #[.int .i64 y0, .int .i64 y1, .int .i64 y2, .slice B m cap2]).cell 2
      have hx3 := (Blk.new wr 32 #[.int .i64 y0, .int .i64 y1, .int .i64 y2, .slice B m cap2]).cell 3
      rw [show (#[Value.int IntKind.i64 y0, .int .i64 y1, .int .i64 y2, .slice B m cap2] : Array Value)[2]? = some (.int .i64 y2) from rfl] at hx2
      rw [show (#[Value.int IntKind.i64 y0, .int .i64 y1, .int .i64 y2, .slice B m cap2] : Array Value)[3]? = some (.slice B m cap2) from rfl] at hx3
      have HB2 := Lib.hid hb2
      clear hb2
      go_wp2_with fail
      refine (HG.out _ HB2.out).mono ?_
      rintro e w3 ⟨rfl, hb3⟩
      have HB3 := Lib.hid (HB2.out.trans (hb3.mono HB2.out.size))
      clear hb3
      cases gq with
      | true =>
        go_wp2
        go_ret
        exact ⟨ret_string (by rw [HST.out, if_pos trivial]), HB3.out⟩
      | false =>
        go_wp2
        go_roundw
        case rel => exact ⟨j + 1, by omega, by go_num, Lib.hid (by rw [HST.out, if_neg (by decide)]), HB3⟩
        case measure => simp [intOf]; omega
    · have hend : throughL p a = ⟨(nts 16).toArray⟩ := by
        rw [hp.out, List.drop_of_length_le (by rw [← HN.out]; omega)]; rfl
      have hrp := fun w => repeat0_any 16 (by omega) (by omega) w
      rw [← hend] at hrp
      have HRP := Lib.hid hrp
      clear hrp hend
      go_wp2_with fail
      refine (HRP.out _).mono ?_
      rintro e w3 ⟨rfl, hb3⟩
      have HB3 := Lib.hid (hb.out.trans (hb3.mono hb.out.size))
      clear hb3
      go_wp2
      go_ret
      exact ⟨rfl, HB3.out⟩
end Go.Proofs.Ytbeloaccgmgocaa.Pr
