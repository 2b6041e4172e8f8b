/- chain.whole: the links from one down, if all their images fit. Conditions: the links are not more than a million; texts are no longer than texts can be. -/
import Derived.Test.YtbeloaccgmgocaaHChPath
import Derived.Test.YtbeloaccgmgocaaHChW1
namespace Go.Proofs.Ytbeloaccgmgocaa.Pr
open Go.RowKit Go.Proofs.YtbeloaccgmgocaaW.PrintWords Go.Proofs.YtbeloaccgmgocaaW.PrintLast Go.Proofs.Ytbeloaccgmgocaa
set_option linter.unusedVariables false
def idxB (l : List SL) (p : SL → Bool) : Int := match l.findIdx? p with | none => -1 | some i => (i : Int)
theorem idxB_has (l : List SL) (p : SL → Bool) : decide (idxB l p ≥ 0) = l.any p := by
  unfold idxB
  cases h : l.findIdx? p with
  | none =>
    rw [List.findIdx?_eq_none_iff] at h
    have : l.any p = false := by
      rw [List.any_eq_false]; intro x hx; rw [h x hx]; decide
    rw [this]; rfl
  | some j =>
    rw [List.findIdx?_eq_some_iff_getElem] at h
    obtain ⟨hj, hp, _⟩ := h
    have : l.any p = true := List.any_eq_true.2 ⟨l[j], List.getElem_mem hj, hp⟩
    rw [this]
    simp
def sizedL (l : List SL) : Bool := l.all fun x => decide (x.f2.f1.length ≤ 1000000) && sizedC x.f2.f1
theorem sizedL_at {l : List SL} (h : sizedL l = true) (x : SL) (hx : x ∈ l) : x.f2.f1.length ≤ 1000000 ∧ sizedC x.f2.f1 = true := by
  have := List.all_eq_true.1 h x hx
  rw [Bool.and_eq_true, decide_eq_true_eq] at this
  exact this
def misfit (c0 : Int) (x : SL) : Bool := unlike c0 x.f2.f0 (rightB x.f2.f0 (prs x.f2.f1))
set_option maxRecDepth 100000 in
set_option maxHeartbeats 1600000 in
theorem indexW_any (A : Option Addr) (cap : Nat) (l : List SL) (c0 : Int) (g b0 off0 n0 cap0 : Nat) (w : World) (hl : l.length ≤ 1000000) (hr : LinksAt w A l) (hsz : sizedL l = true) (hc : w.cell? ⟨g, 0, none⟩ = some (.slice (some ⟨b0, off0, none⟩) n0 cap0)) (hn0 : 0 < n0) (h2 : w.cell? ⟨b0, off0 + 2, none⟩ = some (.int .i64 c0)) :
    Calls Try.prog 62 #[.slice A l.length cap, .func (.func 47) #[] #[.pointer (some ⟨g, 0, none⟩)]] w fun e w' => e = .returned (.int .i64 (idxB l (misfit c0))) ∧ Below w.heap.size w w' := by
  obtain ⟨n, hn⟩ : ∃ n, l.length = n := ⟨_, rfl⟩
  have HR := Lib.hid hr
  have HN := Lib.hid hn
  have HC := Lib.hid hc
  have H2 := Lib.hid h2
  have HS := Lib.hid hsz
  have hclt := block_lt_of_cell hc
  have hblt0 := block_lt_of_cell h2
  rw [hn] at hl
  rw [hn]
  clear hr hn hc h2 hsz
  go_enter Try.func62, Try.ntmps62
  go_wp2_with fail
  go_loopw [8] (fun vj wr => ∃ (j : Nat), j ≤ n ∧ vj = .int .i64 j ∧ Hid (∀ i (h : i < l.length), i < j → misfit c0 l[i] = false) ∧ Hid (Below w.heap.size w wr)) (fun vj _ => n - (intOf vj).toNat)
  case atStart => exact ⟨0, by omega, rfl, Lib.hid (fun i _ h => by omega), Lib.hid (Below.refl _ _)⟩
  case round =>
    obtain ⟨j, hjn, rfl, hp, hb⟩ := hrel
    by_cases hlt : j < n
    · obtain ⟨b, off, rfl, hblt, hcell⟩ := HR.out (by rw [HN.out]; omega)
      have hjl : j < l.length := by rw [HN.out]; exact hlt
      obtain ⟨B, cap2, hc0, hc1, hc2, hc3, _, hkc⟩ := hcell j hjl
      have hsx := sizedL_at HS.out (l[j]'hjl) (List.getElem_mem hjl)
      obtain ⟨x, hx⟩ : ∃ x, l[j]'hjl = x := ⟨_, rfl⟩
      rw [hx] at hc0 hc1 hc2 hc3 hkc hsx
      have d0 := (hb.out.cell (p := ⟨b, off + j * 4, none⟩) hblt).trans hc0
      have d1 := (hb.out.cell (p := ⟨b, off + j * 4 + 1, none⟩) hblt).trans hc1
      have d2 := (hb.out.cell (p := ⟨b, off + j * 4 + 2, none⟩) hblt).trans hc2
      have d3 := (hb.out.cell (p := ⟨b, off + j * 4 + 3, none⟩) hblt).trans hc3
      have HX := Lib.hid hx
      have hcl := whole1_any x.f0 x.f1 x.f2.f0 c0 B x.f2.f1.length cap2 g b0 off0 n0 cap0 (prs x.f2.f1) wr (by have := hsx.1; unfold maxLen; omega) (crow_of_C (Kd.C_below hkc hb.out) hsx.2) ((hb.out.cell (p := ⟨g, 0, none⟩) hclt).trans HC.out) hn0 ((hb.out.cell (p := ⟨b0, off0 + 2, none⟩) hblt0).trans H2.out)
      obtain ⟨y0, hy0⟩ : ∃ y, y = x.f0 := ⟨_, rfl⟩
      obtain ⟨y1, hy1⟩ : ∃ y, y = x.f1 := ⟨_, rfl⟩
      obtain ⟨q, hq⟩ : ∃ q, q = unlike c0 x.f2.f0 (rightB x.f2.f0 (prs x.f2.f1)) := ⟨_, rfl⟩
      rw [← hq] at hcl
      obtain ⟨y2, hy2⟩ : ∃ y, y = x.f2.f0 := ⟨_, rfl⟩
      obtain ⟨m, hm⟩ : ∃ y, y = x.f2.f1.length := ⟨_, rfl⟩
      rw [← hy0] at hcl d0
      rw [← hy1] at hcl d1
      rw [← hy2] at hcl d2
      rw [← hm] at hcl d3
      have HCL := Lib.hid hcl
      have HQ := Lib.hid (show q = misfit c0 x from hq)
      clear hcell hc0 hc1 hc2 hc3 hx hcl hq hy0 hy1 hy2 hm hkc hsx
      go_wp2_with fail
      refine HCL.out.mono ?_
      rintro e w2 ⟨rfl, hb2⟩
      have HB2 := Lib.hid (hb.out.trans (hb2.mono hb.out.size))
      clear hb2
      cases q with
      | true =>
        go_wp2
        go_ret
        refine ⟨?_, HB2.out⟩
        unfold idxB
        have : l.findIdx? (misfit c0) = some j := by
          rw [List.findIdx?_eq_some_iff_getElem]
          refine ⟨hjl, by rw [HX.out, ← HQ.out], fun i hi => by rw [hp.out i (by omega) hi]; decide⟩
        rw [this]; rfl
      | false =>
        go_wp2
        go_roundw
        case rel =>
          refine ⟨j + 1, by omega, by go_num, Lib.hid (fun i h hi => ?_), HB2⟩
          by_cases e : i = j
          · subst e; rw [HX.out, ← HQ.out]
          · exact hp.out i h (by omega)
        case measure => simp [intOf]; omega
    · go_wp2
      go_ret
      refine ⟨?_, hb.out⟩
      unfold idxB
      have : l.findIdx? (misfit c0) = none := by
        rw [List.findIdx?_eq_none_iff]
        intro x hx
        obtain ⟨i, hi, rfl⟩ := List.getElem_of_mem hx
        exact hp.out i hi (by rw [← HN.out] at hlt; omega)
      rw [this]; rfl
set_option maxRecDepth 100000 in
theorem containsW_any (A : Option Addr) (cap : Nat) (l : List SL) (c0 : Int) (g b0 off0 n0 cap0 : Nat) (w : World) (hl : l.length ≤ 1000000) (hr : LinksAt w A l) (hsz : sizedL l = true) (hc : w.cell? ⟨g, 0, none⟩ = some (.slice (some ⟨b0, off0, none⟩) n0 cap0)) (hn0 : 0 < n0) (h2 : w.cell? ⟨b0, off0 + 2, none⟩ = some (.int .i64 c0)) :
    Calls Try.prog 45 #[.slice A l.length cap, .func (.func 47) #[] #[.pointer (some ⟨g, 0, none⟩)]] w fun e w' => e = .returned (.bool (l.any (misfit c0))) ∧ Below w.heap.size w w' := by
  have hcall := indexW_any A cap l c0 g b0 off0 n0 cap0 w hl hr hsz hc hn0 h2
  rw [← idxB_has]
  generalize idxB l (misfit c0) = v at hcall ⊢
  have HC := Lib.hid hcall
  clear hcall hr hc h2 hsz
  go_enter Try.func45, Try.ntmps45
  go_wp2_with fail
  refine HC.out.mono ?_
  rintro e w1 ⟨rfl, hb⟩
  go_wp2
  go_ret
  exact ⟨rfl, hb⟩
theorem pathL_ne (l : List SL) (n : Nat) : ∀ (id : Int) (out p : List SL), pathL l n id out = (p, 0) → p ≠ [] := by
  induction n with
  | zero => intro id out p h; rw [pathL] at h; exact absurd (congrArg Prod.snd h) (show ¬ ((2 : Int) = 0) by decide)
  | succ n ih =>
    intro id out p h
    rw [pathL] at h
    cases hf : l.findIdx? (fun x => x.f0 == id) with
    | none => rw [hf] at h; exact absurd (congrArg Prod.snd h) (show ¬ ((4 : Int) = 0) by decide)
    | some j =>
      rw [hf] at h
      simp only at h
      by_cases h1 : hasL out id = true
      · rw [if_pos h1] at h; exact absurd (congrArg Prod.snd h) (show ¬ ((2 : Int) = 0) by decide)
      · rw [if_neg h1] at h
        split at h
        · have := congrArg Prod.fst h
          simp only at this
          rw [← this]; simp
        · exact ih _ _ _ h
theorem pathL_mem (l : List SL) (n : Nat) : ∀ (id : Int) (out : List SL), (∀ x ∈ out, x ∈ l) → ∀ x ∈ (pathL l n id out).1, x ∈ l := by
  induction n with
  | zero => intro id out _ x hx; rw [pathL] at hx; cases hx
  | succ n ih =>
    intro id out ho x hx
    rw [pathL] at hx
    cases hf : l.findIdx? (fun x => x.f0 == id) with
    | none => rw [hf] at hx; cases hx
    | some j =>
      rw [hf] at hx
      simp only at hx
      have hj : j < l.length := (List.findIdx?_eq_some_iff_getElem.1 hf).1
      have hm : l.getD j ⟨0, 0, ⟨0, []⟩⟩ ∈ l := by rw [List.getD_eq_getElem?_getD, List.getElem?_eq_getElem hj]; exact List.getElem_mem hj
      have ho2 : ∀ x ∈ out ++ [l.getD j ⟨0, 0, ⟨0, []⟩⟩], x ∈ l := fun y hy => by
        rcases List.mem_append.1 hy with hy | hy
        · exact ho y hy
        · rw [List.mem_singleton.1 hy]; exact hm
      by_cases h1 : hasL out id = true
      · rw [if_pos h1] at hx; cases hx
      · rw [if_neg h1] at hx
        split at hx
        · exact ho2 x hx
        · exact ih _ _ ho2 x hx
theorem pathL_len (l : List SL) (n : Nat) : ∀ (id : Int) (out : List SL), (pathL l n id out).1.length ≤ out.length + n := by
  induction n with
  | zero => intro id out; rw [pathL]; exact Nat.zero_le _
  | succ n ih =>
    intro id out
    rw [pathL]
    cases hf : l.findIdx? (fun x => x.f0 == id) with
    | none => exact Nat.zero_le _
    | some j =>
      simp only
      split
      · exact Nat.zero_le _
      · split
        · simp
        · have := ih (l.getD j ⟨0, 0, ⟨0, []⟩⟩).f1 (out ++ [l.getD j ⟨0, 0, ⟨0, []⟩⟩])
          simp only [List.length_append, List.length_singleton] at this
          omega
def pathP (l : List SL) (a : Int) : List SL × Int := pathL l (l.length + 1) a []
def cl0 (p : List SL) : Int := (p.headD ⟨0, 0, ⟨0, []⟩⟩).f2.f0
def wholeL (l : List SL) (a : Int) : List SL × Int :=
  if (pathP l a).2 ≠ 0 then ([], (pathP l a).2) else if (pathP l a).1.any (misfit (cl0 (pathP l a).1)) = true then ([], 2) else ((pathP l a).1, 0)
theorem head_at {w : World} {A : Option Addr} {p : List SL} (h : LinksAt w A p) (hp : p ≠ []) : ∃ b off, A = some ⟨b, off, none⟩ ∧ b < w.heap.size ∧ w.cell? ⟨b, off + 2, none⟩ = some (.int .i64 (cl0 p)) := by
  have hl : 0 < p.length := List.length_pos_iff.2 hp
  obtain ⟨b, off, ha, hb, hc⟩ := h hl
  obtain ⟨_, _, _, _, h2, _⟩ := hc 0 hl
  refine ⟨b, off, ha, hb, ?_⟩
  rw [Nat.zero_mul, Nat.add_zero] at h2
  rw [h2]
  unfold cl0
  cases p with
  | nil => exact absurd rfl hp
  | cons x r => rfl
set_option maxRecDepth 100000 in
set_option maxHeartbeats 1600000 in
theorem whole_any (A : Option Addr) (cap : Nat) (l : List SL) (a : Int) (w : World) (hl : l.length ≤ 900000) (hr : LinksAt w A l) (hsz : sizedL l = true) :
    Calls Try.prog 27 #[.slice A l.length cap, .int .i64 a] w fun e w' => ∃ A' c', e = .returned (.tuple #[.slice A' (wholeL l a).1.length c', .int .i64 (wholeL l a).2]) ∧ (wholeL l a).1.length ≤ c' ∧ LinksAt w' A' (wholeL l a).1 ∧ Below w.heap.size w w' := by
  have hpath := path_any A cap l a w (by omega) hr
  have hne : (pathP l a).2 = 0 → (pathP l a).1 ≠ [] := fun h => pathL_ne l _ a [] _ (Prod.ext rfl h)
  have hps : sizedL (pathP l a).1 = true := by
    unfold sizedL
    rw [List.all_eq_true]
    intro x hx
    exact List.all_eq_true.1 hsz x (pathL_mem l _ a [] (fun _ h => by cases h) x hx)
  have hpl : (pathP l a).1.length ≤ 900001 := by
    have := pathL_len l (l.length + 1) a []
    unfold pathP
    simp only [List.length_nil] at this
    omega
  have hw : wholeL l a = if (pathP l a).2 ≠ 0 then ([], (pathP l a).2) else if (pathP l a).1.any (misfit (cl0 (pathP l a).1)) = true then ([], 2) else ((pathP l a).1, 0) := rfl
  change Calls _ _ _ _ fun e w' => ∃ A' c', e = .returned (.tuple #[.slice A' (pathP l a).1.length c', .int .i64 (pathP l a).2]) ∧ (pathP l a).1.length ≤ c' ∧ LinksAt w' A' (pathP l a).1 ∧ Below w.heap.size w w' at hpath
  obtain ⟨⟨p, er⟩, hpe⟩ : ∃ x, pathP l a = x := ⟨_, rfl⟩
  rw [hpe] at hpath hne hps hpl hw
  simp only at hpath hne hps hpl hw
  obtain ⟨n, hn⟩ : ∃ n, n = l.length := ⟨_, rfl⟩
  rw [← hn] at hpath ⊢
  obtain ⟨k, hk⟩ : ∃ k, k = p.length := ⟨_, rfl⟩
  rw [← hk] at hpath hpl
  have HP := Lib.hid hpath
  have HW := Lib.hid hw
  have HNE := Lib.hid hne
  have HPS := Lib.hid hps
  have HK := Lib.hid hk
  clear hpath hw hne hps hk hn hpe hr hsz
  by_cases he : er = 0
  · subst he
    go_enter Try.func27, Try.ntmps27
    go_wp2_with fail
    refine HP.out.mono ?_
    rintro e w1 ⟨A', c', rfl, hle, hla, hb1⟩
    obtain ⟨b, off, rfl, hblt, hcl⟩ := head_at hla (HNE.out trivial)
    have hkp : 0 < k := by have := List.length_pos_iff.2 (HNE.out trivial); rw [HK.out]; exact this
    have hb2 : Below w1.heap.size w1 (w1.alloc (.cells #[.slice (some ⟨b, off, none⟩) k c'] 30)) := (Below.refl _ _).alloc (Nat.le_refl _) _
    have hbox := (Blk.new w1 30 #[.slice (some ⟨b, off, none⟩) k c']).cell 0
    rw [show (#[Value.slice (some ⟨b, off, none⟩) k c'] : Array Value)[0]? = some (.slice (some ⟨b, off, none⟩) k c') from rfl] at hbox
    have hcon := containsW_any (some ⟨b, off, none⟩) c' p (cl0 p) w1.heap.size b off k c' _ (by rw [← HK.out]; omega) (hla.below hb2) HPS.out hbox hkp ((hb2.cell (p := ⟨b, off + 2, none⟩) hblt).trans hcl)
    rw [← HK.out] at hcon
    obtain ⟨q, hq⟩ : ∃ q, q = p.any (misfit (cl0 p)) := ⟨_, rfl⟩
    rw [← hq] at hcon
    have HQ := Lib.hid hq
    have HCON := Lib.hid hcon
    have HLA := Lib.hid (hla.below hb2)
    have HB2 := Lib.hid (hb1.trans (hb2.mono hb1.size))
    have HBX := Lib.hid (Blk.new w1 30 #[.slice (some ⟨b, off, none⟩) k c'])
    clear hcon hq hla hb2 hbox hcl hb1
    go_wp2_with fail
    refine HCON.out.mono ?_
    rintro e w3 ⟨rfl, hb3⟩
    have d0 := (HBX.out.below hb3 HBX.out.lt).cell 0
    rw [show (#[Value.slice (some ⟨b, off, none⟩) k c'] : Array Value)[0]? = some (.slice (some ⟨b, off, none⟩) k c') from rfl] at d0
    have HLA3 := Lib.hid (HLA.out.below hb3)
    have HB3 := Lib.hid (HB2.out.trans (hb3.mono HB2.out.size))
    clear hb3
    cases q with
    | true =>
      have h2 := HW.out
      rw [if_neg (by decide), ← HQ.out, if_pos rfl] at h2
      have H2 := Lib.hid h2
      clear h2
      go_wp2_with fail
      go_ret2
      rw [H2.out]
      exact ⟨none, 0, rfl, Nat.le_refl _, (fun h => by simp at h), HB3.out⟩
    | false =>
      have h2 := HW.out
      rw [if_neg (by decide), ← HQ.out, if_neg (by decide)] at h2
      have H2 := Lib.hid h2
      clear h2
      go_wp2_with fail
      go_ret2
      rw [H2.out]
      exact ⟨some ⟨b, off, none⟩, c', by rw [HK.out]; rfl, by rw [HK.out] at hle; exact hle, HLA3.out, HB3.out⟩
  · have heb : (er != 0) = true := by simpa using he
    have h2 := HW.out
    rw [if_pos he] at h2
    rw [h2]
    clear h2 he
    go_enter Try.func27, Try.ntmps27
    go_wp2_with fail
    refine HP.out.mono ?_
    rintro e w1 ⟨A', c', rfl, hle, hla, hb1⟩
    have HB1 := Lib.hid hb1
    clear hla hb1
    go_wp2_with fail
    go_ret2
    exact ⟨none, 0, rfl, Nat.le_refl _, (fun h => by simp at h), HB1.out.alloc HB1.out.size _⟩
end Go.Proofs.Ytbeloaccgmgocaa.Pr
