/- The contracts of chain.Read, chain.Path and chain.Flat. Conditions: the links are not more than 900,000; their images' cells and texts are no more and no longer than a million cells and than texts can be. -/
import Derived.Test.YtbeloaccgmgocaaHChThrough
import Derived.Test.YtbeloaccgmgocaaBuild
namespace Go.Proofs.Ytbeloaccgmgocaa
open Go.RowKit
theorem bd_keeps {B b : Nat} {bs : List Value} {w w' : World} (h : Lib.IsBuilder 72 5 B b bs w) (hb : Below w.heap.size w w') : Lib.IsBuilder 72 5 B b bs w' := by
  have key : ∀ p, Lib.BuilderAt 72 5 B b p bs w → Lib.BuilderAt 72 5 B b p bs w' := by
    intro p hp
    have hlt := hp.lt
    obtain ⟨hB, v, hk, hown, hne⟩ := hp
    exact ⟨hB, v, (hb.block b hlt).trans hk, Go.Proofs.YtbeloaccgmgocaaW.PrintWords.pw_own_below hown hb, hne⟩
  rcases h with h | h
  · exact .inl (key _ h)
  · exact .inr (key _ h)
theorem bd_at {B b : Nat} {bs : List Value} {w : World} (h : Lib.IsBuilder 72 5 B b bs w) : b < w.heap.size := by
  rcases h with h | h
  · exact h.lt
  · exact h.lt
end Go.Proofs.Ytbeloaccgmgocaa
namespace Go.Proofs.Ytbeloaccgmgocaa.Pr
open Go.RowKit Go.Proofs.YtbeloaccgmgocaaW.PrintWords Go.Proofs.YtbeloaccgmgocaaW.PrintLast Go.Proofs.Ytbeloaccgmgocaa
set_option linter.unusedVariables false
theorem path_parts (l : List SL) (a : Int) (hl : l.length ≤ 900000) (hsz : sizedL l = true) : sizedL (pathP l a).1 = true ∧ (pathP l a).1.length ≤ 900001 ∧ ((pathP l a).2 = 0 → (pathP l a).1 ≠ []) := by
  refine ⟨?_, ?_, fun h => pathL_ne l _ a [] _ (Prod.ext rfl h)⟩
  · unfold sizedL
    rw [List.all_eq_true]
    intro x hx
    exact List.all_eq_true.1 hsz x (pathL_mem l _ a [] (fun _ h => by cases h) x hx)
  · have := pathL_len l (l.length + 1) a []
    unfold pathP
    simp only [List.length_nil] at this
    omega
theorem pathP_any (A : Option Addr) (cap : Nat) (l : List SL) (a : Int) (w : World) (hl : l.length ≤ 900000) (hr : LinksAt w A l) :
    Calls Try.prog 25 #[.slice A l.length cap, .int .i64 a] w fun e w' => ∃ A' c', e = .returned (.tuple #[.slice A' (pathP l a).1.length c', .int .i64 (pathP l a).2]) ∧ (pathP l a).1.length ≤ c' ∧ LinksAt w' A' (pathP l a).1 ∧ Below w.heap.size w w' := path_any A cap l a w (by omega) hr
def readL (l : List SL) (a at_ : Int) : ByteArray × Int :=
  if (pathP l a).2 ≠ 0 then (⟨#[]⟩, (pathP l a).2) else if at_ < 0 ∨ cl0 (pathP l a).1 ≤ at_ then (⟨#[]⟩, 11) else (throughL (pathP l a).1 at_, 0)
set_option maxRecDepth 100000 in
set_option maxHeartbeats 1600000 in
theorem read_any (A : Option Addr) (cap : Nat) (l : List SL) (a at_ : Int) (w : World) (hl : l.length ≤ 900000) (hr : LinksAt w A l) (hsz : sizedL l = true) :
    Calls Try.prog 13 #[.slice A l.length cap, .int .i64 a, .int .i64 at_] w fun e w' => e = .returned (.tuple #[.string (readL l a at_).1, .int .i64 (readL l a at_).2]) ∧ Below w.heap.size w w' := by
  have hpath := pathP_any A cap l a w hl hr
  obtain ⟨hps, hpl, hne⟩ := path_parts l a hl hsz
  have hw : readL l a at_ = if (pathP l a).2 ≠ 0 then (⟨#[]⟩, (pathP l a).2) else if at_ < 0 ∨ cl0 (pathP l a).1 ≤ at_ then (⟨#[]⟩, 11) else (throughL (pathP l a).1 at_, 0) := rfl
  obtain ⟨⟨p, er⟩, hpe⟩ : ∃ x, pathP l a = x := ⟨_, rfl⟩
  rw [hpe] at hpath hne hps hpl hw
  simp only at hpath hne hps hpl hw
  obtain ⟨n, hn⟩ : ∃ n, n = l.length := ⟨_, rfl⟩
  rw [← hn] at hpath ⊢
  obtain ⟨k, hk⟩ : ∃ k, k = p.length := ⟨_, rfl⟩
  rw [← hk] at hpath hpl
  have HP := Lib.hid hpath
  have HW := Lib.hid hw
  have HNE := Lib.hid hne
  have HPS := Lib.hid hps
  have HK := Lib.hid hk
  clear hpath hw hne hps hk hn hpe hr hsz
  by_cases he : er = 0
  · subst he
    have h2 := HW.out
    rw [if_neg (by decide)] at h2
    by_cases hneg : at_ < 0
    · rw [if_pos (.inl hneg)] at h2
      rw [h2]
      clear h2
      go_enter Try.func13, Try.ntmps13
      go_wp2_with fail
      refine HP.out.mono ?_
      rintro e w1 ⟨A', c', rfl, hle, hla, hb1⟩
      have HB1 := Lib.hid hb1
      clear hla hb1
      go_wp2_with fail
      go_ret2
      exact ⟨rfl, HB1.out⟩
    · obtain ⟨c0, hc0⟩ : ∃ c0, c0 = cl0 p := ⟨_, rfl⟩
      rw [← hc0] at h2
      have HC0 := Lib.hid hc0
      clear hc0
      by_cases hge : c0 ≤ at_
      · rw [if_pos (.inr hge)] at h2
        rw [h2]
        clear h2
        go_enter Try.func13, Try.ntmps13
        go_wp2_with fail
        refine HP.out.mono ?_
        rintro e w1 ⟨A', c', rfl, hle, hla, hb1⟩
        obtain ⟨b, off, rfl, hblt, hcl⟩ := head_at hla (HNE.out trivial)
        rw [← HC0.out] at hcl
        have hkp : 0 < k := by have := List.length_pos_iff.2 (HNE.out trivial); rw [HK.out]; exact this
        have HB1 := Lib.hid hb1
        clear hla hb1
        go_wp2_with fail
        go_ret2
        exact ⟨rfl, HB1.out⟩
      · rw [if_neg (by omega)] at h2
        have hlt : at_ < c0 := by omega
        have H2 := Lib.hid h2
        clear h2 hge
        go_enter Try.func13, Try.ntmps13
        go_wp2_with fail
        refine HP.out.mono ?_
        rintro e w1 ⟨A', c', rfl, hle, hla, hb1⟩
        obtain ⟨b, off, rfl, hblt, hcl⟩ := head_at hla (HNE.out trivial)
        rw [← HC0.out] at hcl
        have hkp : 0 < k := by have := List.length_pos_iff.2 (HNE.out trivial); rw [HK.out]; exact this
        have hth := through_any (some ⟨b, off, none⟩) c' p at_ w1 (by rw [← HK.out]; omega) hla HPS.out
        rw [← HK.out] at hth
        have HTH := Lib.hid hth
        have HB1 := Lib.hid hb1
        clear hla hb1 hth
        have hge2 : ¬ (c0 ≤ at_) := by omega
        go_wp2_with fail
        refine HTH.out.mono ?_
        rintro e w3 ⟨rfl, hb3⟩
        have HB3 := Lib.hid (HB1.out.trans (hb3.mono HB1.out.size))
        clear hb3
        go_wp2_with fail
        go_ret2
        exact ⟨by rw [H2.out]; rfl, HB3.out⟩
  · have heb : (er != 0) = true := by simpa using he
    have h2 := HW.out
    rw [if_pos he] at h2
    rw [h2]
    clear h2 he
    go_enter Try.func13, Try.ntmps13
    go_wp2_with fail
    refine HP.out.mono ?_
    rintro e w1 ⟨A', c', rfl, hle, hla, hb1⟩
    have HB1 := Lib.hid hb1
    clear hla hb1
    go_wp2_with fail
    go_ret2
    exact ⟨rfl, HB1.out⟩
def chain_Read.f (l0 : List SL) (a1 : Int) (a2 : Int) : Option (ByteArray × Int) := if l0.length ≤ 900000 ∧ sizedL l0 = true then some (readL l0 a1 a2) else none
theorem chain_Read.calls (A0 : Option Addr) (c0 : Nat) (l0 : List SL) (a1 : Int) (a2 : Int) (r1 : ByteArray) (r2 : Int) (w : World) (hr0 : Kd.C kL w A0 l0.length l0) (hc0 : l0.length ≤ c0) (h : chain_Read.f l0 a1 a2 = some (r1, r2)) :
    Calls Try.prog 13 #[.slice A0 l0.length c0, .int .i64 a1, .int .i64 a2] w fun e w' => e = .returned (.tuple #[.string r1, .int .i64 r2]) ∧ Below w.heap.size w w' := by
  unfold chain_Read.f at h
  split at h
  · rename_i hh
    have := read_any A0 c0 l0 a1 a2 w hh.1 (linksAt_of_C hr0) hh.2
    rw [Option.some.inj h] at this
    exact this
  · cases h
def idsL (l : List SL) (a : Int) : List Int × Int := if (pathP l a).2 ≠ 0 then ([], (pathP l a).2) else ((pathP l a).1.map (·.f0), 0)
theorem ids_step (p : List SL) (k : Nat) (h : k < p.length) : (p.take (k + 1)).map (·.f0) = (p.take k).map (·.f0) ++ [p[k].f0] := by
  rw [List.take_succ_eq_append_getElem h, List.map_append]; rfl
theorem infoI : (Try.prog.info? 3).map (fun i => (i.zero, i.size, i.bytes)) = some (some (.int .i64 0), 1, 8) := by kernel_rfl
theorem own_formCh {w : World} {base n : Nat} {e : TypeId} {size : Nat} {v : Value} {xs : List Value} (h : w.ownsRow base e size v n xs) : ∃ A c, v = .slice A n c := by
  rcases h.2 with ⟨rfl, h0⟩ | ⟨g, cap, cur, rfl, _⟩
  · exact ⟨none, 0, by rw [h0]⟩
  · exact ⟨_, _, rfl⟩
set_option maxRecDepth 100000 in
set_option maxHeartbeats 1600000 in
theorem ids_any (A : Option Addr) (cap : Nat) (l : List SL) (a : Int) (w : World) (hl : l.length ≤ 900000) (hr : LinksAt w A l) (hsz : sizedL l = true) :
    Calls Try.prog 12 #[.slice A l.length cap, .int .i64 a] w fun e w' => ∃ v : Value, e = .returned (.tuple #[v, .int .i64 (idsL l a).2]) ∧ w'.ownsRow w.heap.size 3 1 v (idsL l a).1.length (nums .i64 (idsL l a).1) ∧ Below w.heap.size w w' := by
  have hpath := pathP_any A cap l a w hl hr
  obtain ⟨hps, hpl, hne⟩ := path_parts l a hl hsz
  have hw : idsL l a = if (pathP l a).2 ≠ 0 then ([], (pathP l a).2) else ((pathP l a).1.map (·.f0), 0) := rfl
  obtain ⟨⟨p, er⟩, hpe⟩ : ∃ x, pathP l a = x := ⟨_, rfl⟩
  rw [hpe] at hpath hne hps hpl hw
  simp only at hpath hne hps hpl hw
  obtain ⟨n, hn⟩ : ∃ n, n = l.length := ⟨_, rfl⟩
  rw [← hn] at hpath ⊢
  obtain ⟨k, hk⟩ : ∃ k, k = p.length := ⟨_, rfl⟩
  rw [← hk] at hpath hpl
  have HP := Lib.hid hpath
  have HW := Lib.hid hw
  have HK := Lib.hid hk
  clear hpath hw hne hps hk hn hpe hr hsz
  by_cases he : er = 0
  · subst he
    have h2 := HW.out
    rw [if_neg (by decide)] at h2
    have H2 := Lib.hid h2
    clear h2
    go_enter Try.func12, Try.ntmps12
    go_wp2_with fail
    refine HP.out.mono ?_
    rintro e w1 ⟨A', c', rfl, hle, hla, hb1⟩
    have HLA := Lib.hid hla
    have HB1 := Lib.hid hb1
    have hsz1 := hb1.size
    clear hla hb1
    go_wp2_with fail
    go_loopw [8, 22] (fun v8 v22 wr => ∃ (j : Nat) (Ai : Option Addr) (ci : Nat), j ≤ k ∧ v22 = .int .i64 j ∧ v8 = .slice Ai j ci ∧ Hid (wr.ownsRow w1.heap.size 3 1 (.slice Ai j ci) j (nums .i64 ((p.take j).map (·.f0)))) ∧ Hid (Below w1.heap.size w1 wr) ∧ Hid (Below w.heap.size w wr)) (fun _ v22 _ => k - (intOf v22).toNat)
    case atStart => exact ⟨0, none, 0, by omega, rfl, rfl, Lib.hid (own_nil _ _ _ _), Lib.hid (Below.refl _ _), HB1⟩
    case round =>
      obtain ⟨j, Ai, ci, hj, rfl, rfl, ho, hbl, hbw⟩ := hrel
      by_cases hlt : j < k
      · have hjl : j < p.length := by rw [← HK.out]; exact hlt
        obtain ⟨b, off, rfl, hblt, hcell⟩ := HLA.out (by omega)
        obtain ⟨B, cap2, hc0, hc1, hc2, hc3, _, _⟩ := hcell j hjl
        have hst := ids_step p j hjl
        have hlen : ((p.take j).map (·.f0)).length = j := by rw [List.length_map, List.length_take]; omega
        obtain ⟨x, hx⟩ : ∃ x, p[j]'hjl = x := ⟨_, rfl⟩
        rw [hx] at hc0 hc1 hc2 hc3 hst
        have d0 := (hbl.out.cell (p := ⟨b, off + j * 4, none⟩) hblt).trans hc0
        have d1 := (hbl.out.cell (p := ⟨b, off + j * 4 + 1, none⟩) hblt).trans hc1
        have d2 := (hbl.out.cell (p := ⟨b, off + j * 4 + 2, none⟩) hblt).trans hc2
        have d3 := (hbl.out.cell (p := ⟨b, off + j * 4 + 3, none⟩) hblt).trans hc3
        obtain ⟨y0, hy0⟩ : ∃ y, y = x.f0 := ⟨_, rfl⟩
        obtain ⟨y1, hy1⟩ : ∃ y, y = x.f1 := ⟨_, rfl⟩
        obtain ⟨y2, hy2⟩ : ∃ y, y = x.f2.f0 := ⟨_, rfl⟩
        obtain ⟨m, hm⟩ : ∃ y, y = x.f2.f1.length := ⟨_, rfl⟩
        rw [← hy0] at d0 hst
        rw [← hy1] at d1
        rw [← hy2] at d2
        rw [← hm] at d3
        have HST := Lib.hid hst
        have HLEN := Lib.hid hlen
        have hx0 := (Blk.new wr 32 #[.int .i64 y0, .int .i64 y1, .int .i64 y2, .slice B m cap2]).cell 0
        rw [show (#[Value.int IntKind.i64 y0, .int .i64 y1, .int .i64 y2, .slice B m cap2] : Array Value)[0]? = some (.int .i64 y0) from rfl] at hx0
        have HO2 := Lib.hid (ho.out.alloc (.cells #[.int .i64 y0, .int .i64 y1, .int .i64 y2, .slice B m cap2] 32))
        have hbl2 : Below w1.heap.size w1 (wr.alloc (.cells #[.int .i64 y0, .int .i64 y1, .int .i64 y2, .slice B m cap2] 32)) := hbl.out.alloc hbl.out.size _
        have hbw2 : Below w.heap.size w (wr.alloc (.cells #[.int .i64 y0, .int .i64 y1, .int .i64 y2, .slice B m cap2] 32)) := hbw.out.alloc hbw.out.size _
        have hszr := hbw.out.size
        have hszl := hbl.out.size
        have HBL2 := Lib.hid hbl2
        have HBW2 := Lib.hid hbw2
        clear hcell hc0 hc1 hc2 hc3 hst hlen hx hy0 hy1 hy2 hm hbl2 hbw2
        have hkl : (((p.take j).map (·.f0)).length + 1) * 8 ≤ 140737488355328 := by rw [HLEN.out]; omega
        have HO3 : Hid ((wr.alloc (.cells #[.int .i64 y0, .int .i64 y1, .int .i64 y2, .slice B m cap2] 32)).ownsRow w1.heap.size 3 1 (.slice Ai j ci) ((p.take j).map (·.f0)).length (nums .i64 ((p.take j).map (·.f0)))) := by rw [HLEN.out]; exact HO2
        have HKL := Lib.hid hkl
        clear hkl HO2 ho
        obtain ⟨X, hX⟩ : ∃ X, X = (p.take j).map (·.f0) := ⟨_, rfl⟩
        rw [← hX] at HKL HO3 HLEN HST
        clear hX
        go_upto_region 8 with fail
        have HX0 := Lib.hid hx0
        clear hx0
        revert HX0 HO3 HBL2 HBW2
        obtain ⟨g, hg⟩ : ∃ g, g = wr.heap.size := ⟨_, rfl⟩
        rw [← hg]
        generalize (wr.alloc (.cells #[.int .i64 y0, .int .i64 y1, .int .i64 y2, .slice B m cap2] 32)) = w2
        intro HBL2 HBW2 HO3 HX0
        have hx0 := HX0.out
        clear hg d0 d1 d2 d3
        go_wp2_with (at_builtin; refine print_append_num (w0 := w1) w1.heap.size rfl _ _ 33 3 .i64 8 rfl Try.underlying33 infoI (by decide) (.slice Ai j ci) X y0 rfl rfl HO3.out HBL2.out HBL2.out.size HKL.out ?_)
        intro v1 w4 hown hb4 hg4 hat
        have HB4 := Lib.hid hb4
        have HBW4 := Lib.hid (show Below w.heap.size w w4 from HB1.out.trans (hb4.mono hsz1))
        have ho4 : w4.ownsRow w1.heap.size 3 1 v1 (j + 1) (nums .i64 ((p.take (j + 1)).map (·.f0))) := by
          rw [HST.out, ← HLEN.out]
          simpa using hown
        obtain ⟨A4, c4, rfl⟩ := own_formCh ho4
        have HO4 := Lib.hid ho4
        clear ho4 hown hb4 hg4 hat
        go_wp2
        go_roundw
        case rel => exact ⟨j + 1, A4, c4, by omega, by go_num, rfl, HO4, HB4, HBW4⟩
        case measure => simp [intOf]; omega
      · obtain rfl : j = k := by omega
        have htk : (p.take j).map (·.f0) = (idsL l a).1 := by rw [List.take_of_length_le (by rw [← HK.out]; omega), H2.out]
        have hlen : j = (idsL l a).1.length := by rw [H2.out]; simp only [List.length_map]; exact HK.out
        rw [htk] at ho
        have HO := Lib.hid ho
        have HLN := Lib.hid hlen
        clear ho htk hlen
        go_wp2_with fail
        go_ret2
        exact ⟨.slice Ai j ci, by rw [H2.out]; rfl, by rw [← HLN.out]; exact own_weaken HO.out.out hsz1, hbw.out⟩
  · have heb : (er != 0) = true := by simpa using he
    have h2 := HW.out
    rw [if_pos he] at h2
    rw [h2]
    clear h2 he
    go_enter Try.func12, Try.ntmps12
    go_wp2_with fail
    refine HP.out.mono ?_
    rintro e w1 ⟨A', c', rfl, hle, hla, hb1⟩
    have HB1 := Lib.hid hb1
    clear hla hb1
    go_wp2_with fail
    go_ret2
    exact ⟨.slice none 0 0, rfl, own_nil _ _ _ _, HB1.out⟩
def chain_Path.f (l0 : List SL) (a1 : Int) : Option (List Int × Int) := if l0.length ≤ 900000 ∧ sizedL l0 = true then some (idsL l0 a1) else none
theorem chain_Path.calls (A0 : Option Addr) (c0 : Nat) (l0 : List SL) (a1 : Int) (r1 : List Int) (r2 : Int) (w : World) (hr0 : Kd.C kL w A0 l0.length l0) (hc0 : l0.length ≤ c0) (h : chain_Path.f l0 a1 = some (r1, r2)) :
    Calls Try.prog 12 #[.slice A0 l0.length c0, .int .i64 a1] w fun e w' => ∃ v0_ : Value, e = .returned (.tuple #[v0_, .int .i64 r2]) ∧ Kd.R (Kd.int .i64) 3 w' w.heap.size (fun _ => True) v0_ r1 ∧ Below w.heap.size w w' := by
  unfold chain_Path.f at h
  split at h
  · rename_i hh
    have := ids_any A0 c0 l0 a1 w hh.1 (linksAt_of_C hr0) hh.2
    rw [Option.some.inj h] at this
    refine this.mono ?_
    rintro e w' ⟨v, he, ho, hb⟩
    exact ⟨v, he, Kd.R_of_own ho (fun _ _ => trivial), hb⟩
  · cases h
def flatTo (p : List SL) : Nat → List UInt8
  | 0 => []
  | k + 1 => flatTo p k ++ (throughL p (k : Int)).data.toList
def flatL (l : List SL) (a : Int) : ByteArray × Int := if (wholeL l a).2 ≠ 0 then (⟨#[]⟩, (wholeL l a).2) else (⟨(flatTo (wholeL l a).1 (cl0 (wholeL l a).1).toNat).toArray⟩, 0)
theorem misfit_no {c0 : Int} {x : SL} (h : misfit c0 x = false) : x.f2.f0 = c0 ∧ rightB c0 (prs x.f2.f1) = true := by
  unfold misfit unlike at h
  rw [Bool.or_eq_false_iff] at h
  have h2 : x.f2.f0 = c0 := by simpa using h.2
  have h1 : rightB x.f2.f0 (prs x.f2.f1) = true := by simpa using h.1
  rw [h2] at h1
  exact ⟨h2, h1⟩
theorem textB_size (s : ByteArray) (h : s.size = 0 ∨ s.size = 16) : (textB s).size = 16 := by
  unfold textB
  split
  · show (nts 16).toArray.size = 16
    simp [nts]
  · omega
theorem getB_size {c0 a : Int} {l : List SC} (h : rightB c0 (prs l) = true) (hq : (getB l a).2 = true) : (getB l a).1.size = 16 := by
  unfold getB at hq ⊢
  by_cases hh : hit l a = true
  · rw [if_pos hh]
    have hp : plc l a < l.length := by
      unfold hit at hh
      rw [Bool.and_eq_true, decide_eq_true_eq] at hh
      exact hh.1
    show (textB (l.getD (plc l a) _).f1).size = 16
    have hx : l.getD (plc l a) ⟨0, ⟨#[]⟩⟩ = l[plc l a] := by rw [List.getD_eq_getElem?_getD, List.getElem?_eq_getElem hp]; rfl
    rw [hx]
    refine textB_size _ ?_
    unfold rightB at h
    rw [Bool.and_eq_true] at h
    exact (rightFrom_all c0 (prs l) (-1) (by omega) h.1 (l[plc l a].f0, l[plc l a].f1) (List.mem_map.2 ⟨_, List.getElem_mem hp, rfl⟩)).2.2
  · rw [if_neg hh] at hq; cases hq
theorem throughL_size {c0 a : Int} (p : List SL) (h : ∀ x ∈ p, rightB c0 (prs x.f2.f1) = true) : (throughL p a).size = 16 := by
  induction p with
  | nil => show (nts 16).toArray.size = 16; simp [nts]
  | cons x r ih =>
    rw [throughL]
    by_cases hq : (getB x.f2.f1 a).2 = true
    · rw [if_pos hq]; exact getB_size (h x (by simp)) hq
    · rw [if_neg hq]; exact ih fun y hy => h y (by simp [hy])
theorem flatTo_len {c0 : Int} (p : List SL) (h : ∀ x ∈ p, rightB c0 (prs x.f2.f1) = true) (k : Nat) : (flatTo p k).length = 16 * k := by
  induction k with
  | zero => rfl
  | succ k ih => rw [flatTo, List.length_append, ih, size_listC, throughL_size p h]; omega
/-- what a whole path is -/
theorem whole_parts (l : List SL) (a : Int) (hl : l.length ≤ 900000) (hsz : sizedL l = true) (h0 : (wholeL l a).2 = 0) :
    (wholeL l a).1 ≠ [] ∧ sizedL (wholeL l a).1 = true ∧ (wholeL l a).1.length ≤ 900001 ∧ (∀ x ∈ (wholeL l a).1, x.f2.f0 = cl0 (wholeL l a).1 ∧ rightB (cl0 (wholeL l a).1) (prs x.f2.f1) = true) ∧ 1 ≤ cl0 (wholeL l a).1 ∧ cl0 (wholeL l a).1 ≤ 64 := by
  obtain ⟨h1, h2, h3⟩ := path_parts l a hl hsz
  have hw : wholeL l a = if (pathP l a).2 ≠ 0 then ([], (pathP l a).2) else if (pathP l a).1.any (misfit (cl0 (pathP l a).1)) = true then ([], 2) else ((pathP l a).1, 0) := rfl
  rw [hw] at h0
  by_cases hp : (pathP l a).2 ≠ 0
  · rw [if_pos hp] at h0; exact absurd h0 hp
  rw [if_neg hp] at h0
  have hp0 : (pathP l a).2 = 0 := Classical.not_not.1 hp
  by_cases hm : (pathP l a).1.any (misfit (cl0 (pathP l a).1)) = true
  · rw [if_pos hm] at h0; exact absurd h0 (by decide)
  have he : (wholeL l a).1 = (pathP l a).1 := by rw [hw, if_neg hp, if_neg hm]
  rw [he]
  have hall : ∀ x ∈ (pathP l a).1, x.f2.f0 = cl0 (pathP l a).1 ∧ rightB (cl0 (pathP l a).1) (prs x.f2.f1) = true := fun x hx => misfit_no (by
    cases hb : misfit (cl0 (pathP l a).1) x
    · rfl
    · exact absurd (List.any_eq_true.2 ⟨x, hx, hb⟩) hm)
  refine ⟨h3 hp0, h1, h2, hall, ?_⟩
  obtain ⟨x, r, hxr⟩ : ∃ x r, (pathP l a).1 = x :: r := by
    cases hq : (pathP l a).1 with
    | nil => exact absurd hq (h3 hp0)
    | cons x r => exact ⟨x, r, rfl⟩
  have hr := (hall x (by rw [hxr]; simp)).2
  unfold rightB newR at hr
  rw [Bool.and_eq_true] at hr
  have h4 := hr.2
  by_cases hc : cl0 (pathP l a).1 < 1 ∨ 64 < cl0 (pathP l a).1
  · rw [if_pos hc] at h4; exact absurd h4 (by decide)
  · omega
set_option maxRecDepth 100000 in
set_option maxHeartbeats 1600000 in
theorem flatc_any (A : Option Addr) (cap : Nat) (l : List SL) (a : Int) (w : World) (hl : l.length ≤ 900000) (hr : LinksAt w A l) (hsz : sizedL l = true) :
    Calls Try.prog 18 #[.slice A l.length cap, .int .i64 a] w fun e w' => e = .returned (.tuple #[.string (flatL l a).1, .int .i64 (flatL l a).2]) ∧ Below w.heap.size w w' := by
  have hwh := whole_any A cap l a w hl hr hsz
  have hpts := whole_parts l a hl hsz
  have hf : flatL l a = if (wholeL l a).2 ≠ 0 then (⟨#[]⟩, (wholeL l a).2) else (⟨(flatTo (wholeL l a).1 (cl0 (wholeL l a).1).toNat).toArray⟩, 0) := rfl
  obtain ⟨⟨p, er⟩, hpe⟩ : ∃ x, wholeL l a = x := ⟨_, rfl⟩
  rw [hpe] at hwh hpts hf
  simp only at hwh hpts hf
  obtain ⟨n, hn⟩ : ∃ n, n = l.length := ⟨_, rfl⟩
  rw [← hn] at hwh ⊢
  obtain ⟨k, hk⟩ : ∃ k, k = p.length := ⟨_, rfl⟩
  rw [← hk] at hwh
  have HP := Lib.hid hwh
  have HPTS := Lib.hid hpts
  have HF := Lib.hid hf
  have HK := Lib.hid hk
  clear hwh hpts hf hk hn hpe hr hsz
  by_cases he : er = 0
  · subst he
    obtain ⟨hne, hps, hpl, hall, hc1, hc64⟩ := HPTS.out rfl
    have h2 := HF.out
    rw [if_neg (by decide)] at h2
    obtain ⟨M, hM⟩ : ∃ M : Nat, cl0 p = (M : Int) := ⟨(cl0 p).toNat, by omega⟩
    have hall2 : ∀ x ∈ p, rightB (M : Int) (prs x.f2.f1) = true := fun x hx => by have := (hall x hx).2; rw [hM] at this; exact this
    have hlen := fun j => flatTo_len p hall2 j
    have hths := fun a => throughL_size (a := a) p hall2
    rw [hM, Int.toNat_natCast] at h2
    have hM1 : 1 ≤ M := by omega
    have hM64 : M ≤ 64 := by omega
    have H2 := Lib.hid h2
    have HNE := Lib.hid hne
    have HPS := Lib.hid hps
    have HCM := Lib.hid hM
    have HLEN := Lib.hid hlen
    have HTHS := Lib.hid hths
    have hkl : k ≤ 900001 := by rw [HK.out]; exact hpl
    clear h2 hne hps hpl hall hc1 hc64 hM hall2 hlen hths
    go_enter Try.func18, Try.ntmps18
    go_wp2_with fail
    refine HP.out.mono ?_
    rintro e w1 ⟨A', c', rfl, hle, hla, hb1⟩
    obtain ⟨b, off, rfl, hblt, hcl⟩ := head_at hla HNE.out
    rw [HCM.out] at hcl
    have hkp : 0 < k := by have := List.length_pos_iff.2 HNE.out; rw [HK.out]; exact this
    have hcl2 := (((Below.refl w1.heap.size w1).alloc (Nat.le_refl _) (.cells #[.pointer none, .slice none 0 0] 72)).cell (p := ⟨b, off + 2, none⟩) hblt).trans hcl
    have HBD := Lib.hid (show Lib.IsBuilder 72 5 w1.heap.size w1.heap.size (Lib.byteCells (flatTo p 0)) _ from Lib.fresh_isBuilder 72 5 w1)
    have HBL := Lib.hid ((Below.refl w1.heap.size w1).alloc (Nat.le_refl _) (.cells #[.pointer none, .slice none 0 0] 72))
    have HLA := Lib.hid hla
    have HB1 := Lib.hid hb1
    have hsz1 := hb1.size
    clear hla hb1 hcl
    go_wp2_with fail
    go_loopw [24] (fun v24 wr => ∃ (j : Nat), j ≤ M ∧ v24 = .int .i64 j ∧ Hid (Lib.IsBuilder 72 5 w1.heap.size w1.heap.size (Lib.byteCells (flatTo p j)) wr) ∧ Hid (Below w1.heap.size w1 wr)) (fun v24 _ => M - (intOf v24).toNat)
    case atStart => exact ⟨0, by omega, rfl, HBD, HBL⟩
    case round =>
      clear HBD HBL hcl2
      obtain ⟨j, hj, rfl, hbd, hbl⟩ := hrel
      by_cases hlt : j < M
      · have hth := through_any (some ⟨b, off, none⟩) c' p (j : Int) wr (by rw [← HK.out]; omega) (HLA.out.below hbl.out) HPS.out
        rw [← HK.out] at hth
        obtain ⟨s, hs⟩ : ∃ s, s = throughL p (j : Int) := ⟨_, rfl⟩
        have hst : Lib.byteCells (flatTo p j) ++ Lib.strCells s = Lib.byteCells (flatTo p (j + 1)) := by rw [Lib.strCells_eq, ← Lib.byteCells_append, hs]; rfl
        have hss : s.size = 16 := by rw [hs]; exact HTHS.out j
        have hbln : (Lib.byteCells (flatTo p j)).length = 16 * j := by rw [Lib.byteCells_length]; exact HLEN.out j
        rw [← hs] at hth
        have HTH := Lib.hid hth
        have HST := Lib.hid hst
        have HLS := Lib.hid (show (Lib.byteCells (flatTo p j)).length + s.size ≤ 140737488355328 by rw [hbln, hss]; omega)
        clear hth hst hss hbln hs
        go_wp2_with fail
        refine HTH.out.mono ?_
        rintro e w3 ⟨rfl, hb3⟩
        have hbd3 := bd_keeps hbd.out hb3
        have hbl3 : Below w1.heap.size w1 w3 := hbl.out.trans (hb3.mono hbl.out.size)
        have hwr := bwrite_any w1.heap.size w1.heap.size (Lib.byteCells (flatTo p j)) s w3 hbd3 HLS.out hbl3.size
        have HWR := Lib.hid hwr
        have HBL3 := Lib.hid hbl3
        clear hwr hbd3 hbl3 hb3
        go_wp2_with fail
        refine HWR.out.mono ?_
        rintro e w4 ⟨rfl, hbd4, hb4⟩
        rw [HST.out] at hbd4
        have HBD4 := Lib.hid (show Lib.IsBuilder 72 5 w1.heap.size w1.heap.size (Lib.byteCells (flatTo p (j + 1))) w4 from .inr hbd4)
        have HBL4 := Lib.hid (HBL3.out.trans hb4)
        clear hbd4 hb4
        go_wp2
        go_roundw
        case rel => exact ⟨j + 1, by omega, by go_num, HBD4, HBL4⟩
        case measure => simp [intOf]; omega
      · obtain rfl : j = M := by omega
        have hbs := bstring_any w1.heap.size w1.heap.size (flatTo p j) wr hbd.out hbl.out.size
        have HBS := Lib.hid hbs
        clear hbs
        go_wp2_with fail
        refine HBS.out.mono ?_
        rintro e w4 ⟨rfl, hb4⟩
        have HB4 := Lib.hid (HB1.out.trans ((hbl.out.trans hb4).mono hsz1))
        clear hb4
        go_wp2_with fail
        go_ret2
        exact ⟨by rw [H2.out]; rfl, HB4.out⟩
  · have heb : (er != 0) = true := by simpa using he
    have h2 := HF.out
    rw [if_pos he] at h2
    rw [h2]
    clear h2 he
    go_enter Try.func18, Try.ntmps18
    go_wp2_with fail
    refine HP.out.mono ?_
    rintro e w1 ⟨A', c', rfl, hle, hla, hb1⟩
    have HB1 := Lib.hid hb1
    clear hla hb1
    go_wp2_with fail
    go_ret2
    exact ⟨rfl, HB1.out⟩
def chain_Flat.f (l0 : List SL) (a1 : Int) : Option (ByteArray × Int) := if l0.length ≤ 900000 ∧ sizedL l0 = true then some (flatL l0 a1) else none
theorem chain_Flat.calls (A0 : Option Addr) (c0 : Nat) (l0 : List SL) (a1 : Int) (r1 : ByteArray) (r2 : Int) (w : World) (hr0 : Kd.C kL w A0 l0.length l0) (hc0 : l0.length ≤ c0) (h : chain_Flat.f l0 a1 = some (r1, r2)) :
    Calls Try.prog 18 #[.slice A0 l0.length c0, .int .i64 a1] w fun e w' => e = .returned (.tuple #[.string r1, .int .i64 r2]) ∧ Below w.heap.size w w' := by
  unfold chain_Flat.f at h
  split at h
  · rename_i hh
    have := flatc_any A0 c0 l0 a1 w hh.1 (linksAt_of_C hr0) hh.2
    rw [Option.some.inj h] at this
    exact this
  · cases h
end Go.Proofs.Ytbeloaccgmgocaa.Pr
