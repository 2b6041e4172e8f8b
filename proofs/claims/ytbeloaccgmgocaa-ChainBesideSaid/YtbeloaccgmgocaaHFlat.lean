/- The contract of cell.Flat. Condition: texts are no longer than texts can be, no more cells than a million. -/
import Derived.Test.YtbeloaccgmgocaaHRight
import Derived.Test.YtbeloaccgmgocaaHRepeat
import Derived.Test.YtbeloaccgmgocaaHFlat0
import Derived.Test.YtbeloaccgmgocaaQuietTail
import Derived.Lib.LazyBuf
import Derived.Laws.IdiomCopy
namespace Go.Proofs.Ytbeloaccgmgocaa.Pr
open Go.RowKit Go.Proofs.YtbeloaccgmgocaaW.PrintWords Go.Proofs.YtbeloaccgmgocaaW.PrintLast Go.Proofs.Ytbeloaccgmgocaa
set_option linter.unusedVariables false
def textB (s : ByteArray) : ByteArray := if s.size = 0 then ⟨(nts 16).toArray⟩ else s
def lay (b : List UInt8) (o : Nat) (s : ByteArray) : List UInt8 := b.take o ++ s.data.toList ++ b.drop (o + s.size)
def layAll (b : List UInt8) : List SC → List UInt8
  | [] => b
  | c :: r => layAll (lay b (c.f0.toNat * 16) (textB c.f1)) r
def cell_Flat.f (a0_0 : Int) (l0_1 : List SC) : Option (ByteArray) :=
  if l0_1.length ≤ maxLen ∧ sizedC l0_1 = true then (if rightB a0_0 (prs l0_1) = true then some ⟨(layAll (nts (a0_0.toNat * 16)) l0_1).toArray⟩ else some ⟨#[]⟩) else none
def BytC (w : World) (g : Nat) (l : List UInt8) : Prop := ∀ i (h : i < l.length), w.cell? ⟨g, i, none⟩ = some (.int .u8 (l[i].toNat : Int)) ∧ w.frozen? ⟨g, i, none⟩ = false
theorem bytC_of {w : World} {g : Nat} {l : List UInt8} (h : Byts w g l) : BytC w g l := fun i hi => ⟨h.cell i hi, h.frozen i hi⟩
theorem BytC.below {w w' : World} {g B : Nat} {l : List UInt8} (h : BytC w g l) (hb : Below B w w') (hg : g < B) : BytC w' g l := fun i hi => ⟨(hb.cell (p := ⟨g, i, none⟩) hg).trans (h i hi).1, (hb.frozen (p := ⟨g, i, none⟩) hg).trans (h i hi).2⟩
theorem size_listC (s : ByteArray) : s.data.toList.length = s.size := Array.length_toList
theorem lay_length (b : List UInt8) (o : Nat) (s : ByteArray) (h : o + s.size ≤ b.length) : (lay b o s).length = b.length := by
  unfold lay
  rw [List.length_append, List.length_append, List.length_take, List.length_drop, size_listC]; omega
theorem BytC.laid {w : World} {g : Nat} {b : List UInt8} (h : BytC w g b) (o : Nat) (s : ByteArray) (hs : o + s.size ≤ b.length) : BytC (w.setCells g o (s.data.toList.map fun x => Value.int .u8 (x.toNat : Int))) g (lay b o s) := by
  intro i hi
  rw [lay_length b o s hs] at hi
  have hl : (s.data.toList.map fun x => Value.int .u8 (x.toNat : Int)).length = s.size := by rw [List.length_map, size_listC]
  refine ⟨?_, by rw [World.frozen?_setCells]; exact (h i hi).2⟩
  by_cases hin : o ≤ i ∧ i < o + s.size
  · have h1 := World.cell?_setCells_in g (s.data.toList.map fun x => Value.int .u8 (x.toNat : Int)) o w (fun j hj => by rw [hl] at hj; rw [(h (o + j) (by omega)).1]; rfl) (i - o) (by rw [hl]; omega)
    rw [show o + (i - o) = i by omega] at h1
    rw [h1, List.getElem_map]
    have h2 : (lay b o s)[i]? = s.data.toList[i - o]? := by
      unfold lay
      have ht : (b.take o).length = o := by rw [List.length_take]; omega
      rw [List.append_assoc, List.getElem?_append_right (by omega), ht, List.getElem?_append_left (by rw [size_listC]; omega)]
    have h3 : i - o < s.data.toList.length := by rw [size_listC]; omega
    rw [List.getElem?_eq_getElem h3] at h2
    have h4 : (lay b o s)[i]'(by rw [lay_length b o s hs]; exact hi) = s.data.toList[i - o] := by
      rw [List.getElem?_eq_getElem (by rw [lay_length b o s hs]; exact hi)] at h2
      exact Option.some.inj h2
    rw [h4]
  · rw [World.cell?_setCells_out g _ o w ⟨g, i, none⟩ (fun _ _ => by rw [hl]; show i < o ∨ o + s.size ≤ i; omega), (h i hi).1]
    have h2 : (lay b o s)[i]? = b[i]? := by
      unfold lay
      have ht : (b.take o).length = o := by rw [List.length_take]; omega
      rcases Nat.lt_or_ge i o with hio | hio
      · rw [List.append_assoc, List.getElem?_append_left (by omega), List.getElem?_take, if_pos hio]
      · rw [List.getElem?_append_right (by rw [List.length_append, ht, size_listC]; omega), List.length_append, ht, size_listC, List.getElem?_drop]
        congr 1; omega
    rw [List.getElem?_eq_getElem hi, List.getElem?_eq_getElem (by rw [lay_length b o s hs]; exact hi)] at h2
    rw [Option.some.inj h2]
set_option maxRecDepth 100000 in
theorem ctext_any (x : SC) (w : World) : Calls Try.prog 30 #[.agg #[.int .i64 x.f0, .string x.f1]] w fun e w' => e = .returned (.string (textB x.f1)) ∧ Below w.heap.size w w' := by
  obtain ⟨x0, x1⟩ := x
  dsimp only
  by_cases h0 : x1.size = 0
  · have hn0 : (x1.toList == []) = true := by rw [empty_list, decide_eq_true_eq]; exact h0
    have ht : textB x1 = ⟨(nts 16).toArray⟩ := by unfold textB; rw [if_pos h0]
    have hrp := fun w => repeat0_any 16 (by omega) (by omega) w
    rw [show (⟨(nts 16).toArray⟩ : ByteArray) = textB x1 from ht.symm] at hrp
    have HRP := Lib.hid hrp
    clear ht hrp h0
    go_enter Try.func30, Try.ntmps30
    go_wp2_with fail
    refine (HRP.out _).mono ?_
    rintro e w1 ⟨rfl, hb1⟩
    have H1 := Lib.hid (((Below.refl w.heap.size w).alloc (Nat.le_refl _) (.cells #[.int .i64 x0, .string x1] 67)).trans (hb1.mono (by simp)))
    clear hb1
    go_wp2
    go_ret
    exact ⟨rfl, H1.out⟩
  · have hn0 : (x1.toList == []) = false := by rw [empty_list, decide_eq_false_iff_not]; exact h0
    have ht : textB x1 = x1 := by unfold textB; rw [if_neg h0]
    have HT := Lib.hid ht
    clear ht h0
    go_enter Try.func30, Try.ntmps30
    go_wp2
    go_ret
    exact ⟨by rw [HT.out]; rfl, (Below.refl _ _).alloc (Nat.le_refl _) _⟩
theorem step_behind {P : Program} {f : FuncId} {args : Array Value} {w : World} {v : Value} (h : ∀ w', Calls P f args w' fun e w'' => e = .returned v ∧ Below w'.heap.size w' w'') (p : Behind w) : Calls P f args p.v fun e w'' => e = .returned v ∧ ∃ q : Behind w, w'' = q.v := behind_of (h p.v)
set_option maxRecDepth 100000 in
set_option maxHeartbeats 4000000 in
theorem flat_any (A : Option Addr) (cap M : Nat) (l : List SC) (w : World) (hl : l.length ≤ maxLen) (hM : M ≤ 64) (hM1 : 1 ≤ M) (hr : CellsAt w A l) (hcr : CRow w A l.length (prs l)) (hg : rightB (M : Int) (prs l) = true) (hok : ∀ x ∈ l, 0 ≤ x.f0 ∧ x.f0 < M ∧ (textB x.f1).size = 16) :
    Calls Try.prog 23 #[.agg #[.int .i64 (M : Int), .slice A l.length cap]] w fun e w' => e = .returned (.string ⟨(layAll (nts (M * 16)) l).toArray⟩) ∧ Below w.heap.size w w' := by
  obtain ⟨n, hn⟩ : ∃ n, n = l.length := ⟨_, rfl⟩
  have hri := fun (w1 : World) (h1 : Below w.heap.size w w1) => cright_any A l.length cap (M : Int) (prs l) w1 hl (hcr.below h1)
  rw [hg] at hri
  rw [← hn] at hri hl ⊢
  have hrep := fun w => repeat0_any (M * 16) (by omega) (by omega) w
  have hbox := Blk.new w 26 #[.int .i64 (M : Int), .slice A n cap]
  have hbel := (Below.refl w.heap.size w).alloc (Nat.le_refl _) (.cells #[.int .i64 (M : Int), .slice A n cap] 26)
  obtain ⟨S, hS⟩ : ∃ S : ByteArray, S = ⟨(nts (M * 16)).toArray⟩ := ⟨_, rfl⟩
  have hSs : S.size = M * 16 := by rw [hS]; show (nts (M * 16)).toArray.size = _; simp [nts]
  have hSl : S.data.toList = nts (M * 16) := by rw [hS]
  rw [← hS] at hrep
  unfold maxLen at hl
  have HRI := Lib.hid hri
  have HREP := Lib.hid hrep
  have HBOX := Lib.hid hbox
  have HBEL := Lib.hid hbel
  have HN := Lib.hid hn
  have HOK := Lib.hid hok
  have HR := Lib.hid hr
  have HSS := Lib.hid hSs
  have HSL := Lib.hid hSl
  have hS2 : S.size ≤ 1024 := by rw [hSs]; omega
  clear hri hrep hbox hbel hn hok hr hcr hg hS hSs hSl
  go_enter Try.func23, Try.ntmps23
  go_wp2_with fail
  refine (HRI.out _ HBEL.out).mono ?_
  rintro e w1 ⟨rfl, hb1⟩
  have H0 := Lib.hid (HBOX.out.below hb1 HBOX.out.lt)
  have H2 := Lib.hid (HBEL.out.trans (hb1.mono HBEL.out.size))
  clear hb1
  have c0 := H0.out.cell 0
  rw [show (#[Value.int IntKind.i64 (M : Int), Value.slice A n cap] : Array Value)[0]? = some (.int .i64 (M : Int)) from rfl] at c0
  have hmul : IntKind.i64.wrap ((M : Int) * 16) = ((M * 16 : Nat) : Int) := by rw [IntKind.wrap_i64]; omega
  go_upto_region 4 with (go_at_call 41; refine (HREP.out _).mono ?_; rintro e w2 ⟨rfl, hb2⟩; have G0 := Lib.hid (H0.out.below hb2 H0.out.lt); have G2 := Lib.hid (H2.out.trans (hb2.mono H2.out.size)); clear hb2 c0)
  rw [run_bytes_of_string w2 9 70 5 S Try.underlying9 Try.underlying70 Try.underlying5]
  simp only [Result.andThen]
  rw [Oper.upon_value]
  have hby := bytC_of (byts_new w2 S (grownCap w2 S.size 0 5) 5)
  rw [HSL.out] at hby
  obtain ⟨K, hK⟩ : ∃ K, K = grownCap w2 S.size 0 5 := ⟨_, rfl⟩
  have hKs : S.size ≤ K := by rw [hK]; exact grownCap_ge w2 _ _ _
  have hKm : K ≤ 9223372036854775807 := by
    have := grownCap_le_maxLen w2 S.size 0 5 (by unfold maxLen; omega)
    rw [← hK] at this; unfold maxLen at this; omega
  rw [← hK] at hby ⊢
  have hw3 : Below w2.heap.size w2 (w2.drew.alloc (.cells (bytesRow S K) 5 ((bytesRow S K).size, (bytesRow S K).size + 1))) := ((Below.refl _ _).drew).alloc (Nat.le_refl _) _
  have hlt3 : w2.heap.size < (w2.drew.alloc (.cells (bytesRow S K) 5 ((bytesRow S K).size, (bytesRow S K).size + 1))).heap.size := by simp
  generalize (w2.drew.alloc (.cells (bytesRow S K) 5 ((bytesRow S K).size, (bytesRow S K).size + 1))) = w3 at hby hw3 hlt3 ⊢
  have K0 := Lib.hid (G0.out.below hw3 G0.out.lt)
  have K2 := Lib.hid (G2.out.trans (hw3.mono G2.out.size))
  have HBY := Lib.hid hby
  have hg2s := G2.out.size
  have hg0l := G0.out.lt
  clear hby hw3 hK G0 G2
  obtain ⟨Z, hZ⟩ : ∃ Z, Z = S.size := ⟨_, rfl⟩
  have HZ := Lib.hid hZ
  rw [← hZ] at hKs hS2
  rw [← hZ]
  clear hZ
  have e1 := K0.out.cell 1
  rw [show (#[Value.int IntKind.i64 (M : Int), Value.slice A n cap] : Array Value)[1]? = some (.slice A n cap) from rfl] at e1
  go_wp2_with fail
  go_loopw [17] (fun vi wr => ∃ (k : Nat) (b : List UInt8), k ≤ n ∧ vi = .int .i64 k ∧ Hid (b.length = M * 16 ∧ layAll (nts (M * 16)) l = layAll b (l.drop k)) ∧ Hid (BytC wr w2.heap.size b) ∧ Hid (w2.heap.size < wr.heap.size ∧ Below w.heap.size w wr)) (fun vi _ => n - (intOf vi).toNat)
  case atStart => exact ⟨0, _, by omega, rfl, Lib.hid ⟨by simp [nts], by rw [List.drop_zero]⟩, HBY, Lib.hid ⟨hlt3, K2.out⟩⟩
  case round =>
    obtain ⟨k, b, hk, rfl, hbb, hby, hbw⟩ := hrel
    by_cases hlt : k < n
    · have hkl : k < l.length := by rw [← HN.out]; exact hlt
      obtain ⟨b0, off, rfl, hblt, hcell⟩ := HR.out (by omega)
      obtain ⟨hc0, hc1⟩ := hcell k hkl
      obtain ⟨hx0, hx1, hx2⟩ := HOK.out _ (List.getElem_mem hkl)
      obtain ⟨x, hx⟩ : ∃ x, l[k] = x := ⟨_, rfl⟩
      rw [hx] at hc0 hc1 hx0 hx1 hx2
      have HX := Lib.hid hx
      obtain ⟨x0, x1⟩ := x
      dsimp only at hc0 hc1 hx0 hx1 hx2
      obtain ⟨t, rfl⟩ : ∃ t : Nat, x0 = (t : Int) := ⟨x0.toNat, by omega⟩
      have d0 := (hbw.out.2.cell (p := ⟨b0, off + k * 2, none⟩) hblt).trans hc0
      have d1 := (hbw.out.2.cell (p := ⟨b0, off + k * 2 + 1, none⟩) hblt).trans hc1
      have hB1 := Blk.new wr 67 #[.int .i64 (t : Int), .string x1]
      have hL1 := hbw.out.2.alloc hbw.out.2.size (.cells #[.int .i64 (t : Int), .string x1] 67)
      have hBY : BytC (wr.alloc (.cells #[.int .i64 (t : Int), .string x1] 67)) w2.heap.size b := hby.out.below ((Below.refl wr.heap.size wr).alloc (Nat.le_refl _) _) hbw.out.1
      have htx := ctext_any ⟨(t : Int), x1⟩
      obtain ⟨T, hT⟩ : ∃ T, T = textB x1 := ⟨_, rfl⟩
      dsimp only at htx
      rw [← hT] at hx2 htx
      have HTX := Lib.hid htx
      have HT := Lib.hid hT
      have hZM : Z = M * 16 := by rw [HZ.out, HSS.out]
      have hfit : t * 16 + T.size ≤ b.length := by rw [hbb.out.1, hx2]; omega
      have hZt : T.size ≤ Z - t * 16 := by omega
      have hKt : ¬ (K = t * 16) := by omega
      have hm16 : IntKind.i64.wrap ((t : Int) * 16) = ((t * 16 : Nat) : Int) := by rw [IntKind.wrap_i64]; omega
      have hle1 : ((t * 16 : Nat) : Int) ≤ (Z : Int) := by omega
      have hle2 : t * 16 ≤ Z := by omega
      have hge : (0 : Int) ≤ ((t * 16 : Nat) : Int) := by omega
      have HB1 := Lib.hid hB1
      have HL1 := Lib.hid hL1
      have HBY := Lib.hid hBY
      have HFIT := Lib.hid hfit
      have hgl : w2.heap.size < wr.heap.size := hbw.out.1
      have hgw : w.heap.size ≤ w2.heap.size := hg2s
      clear hcell hc0 hc1 hx hB1 hL1 hBY htx hT hZM hfit
      go_upto_region 7 with fail
      have hsz4 : wr.heap.size < (wr.alloc (.cells #[.int .i64 (t : Int), .string x1] 67)).heap.size := by simp
      generalize (wr.alloc (.cells #[.int .i64 (t : Int), .string x1] 67)) = w4 at HB1 HL1 HBY hsz4 ⊢
      have q0 := HB1.out.cell 0
      have q1 := HB1.out.cell 1
      rw [show (#[Value.int IntKind.i64 (t : Int), Value.string x1] : Array Value)[0]? = some (.int .i64 (t : Int)) from rfl] at q0
      rw [show (#[Value.int IntKind.i64 (t : Int), Value.string x1] : Array Value)[1]? = some (.string x1) from rfl] at q1
      have g0 := fun p : Behind w4 => p.cell q0
      have g1 := fun p : Behind w4 => p.cell q1
      clear q0 q1 d0 d1 hx2
      refine wp_region_behind_tail 7 (by kernel_rfl) (by kernel_rfl) ?_
      simp only [List.take_succ_cons, List.take_zero, List.drop_succ_cons, List.drop_zero]
      repeat (go_big_quiet_step (first | (go_at_call 30; exact behind_of (HTX.out _))))
      refine wpQuiet_nil ?_
      intro w5 hb5
      have hby5 : BytC w5 w2.heap.size b := HBY.out.below hb5 (by omega)
      have hcp := fun ty dc => run_copy_string (P := Try.prog) w5 70 9 ty 5 w2.heap.size (t * 16) (Z - t * 16) dc T Try.underlying70 Try.sizeOf5 hZt (fun j hj => by rw [(hby5 (t * 16 + j) (by have := HFIT.out; omega)).1]; rfl) (fun j hj => (hby5 (t * 16 + j) (by have := HFIT.out; omega)).2)
      have hres := hby5.laid (t * 16) T HFIT.out
      have hbel5 := below_setCells (a := w) (B := w.heap.size) (b := w2.heap.size) hg2s (T.data.toList.map fun x => Value.int .u8 (x.toNat : Int)) (t * 16) w5 (HL1.out.trans (hb5.mono HL1.out.size))
      have hs5 := hb5.size
      have HRES := Lib.hid hres
      have HBEL5 := Lib.hid hbel5
      have HCP := Lib.hid hcp
      clear hby5 hres hbel5 hcp g0 g1 HB1 HL1 HBY HTX
      refine wpList_copy_run' _ rfl _ _ 70 9 rfl _ _ rfl rfl (HCP.out _ _) ?_
      go_wp2
      go_roundw
      case rel =>
        refine ⟨k + 1, lay b (t * 16) T, by omega, by go_num, Lib.hid ⟨by rw [lay_length b _ T HFIT.out]; exact hbb.out.1, ?_⟩, HRES, Lib.hid ⟨?_, HBEL5.out⟩⟩
        · rw [hbb.out.2, List.drop_eq_getElem_cons hkl, HX.out, layAll, HT.out]; rfl
        · have : (w5.setCells w2.heap.size (t * 16) (T.data.toList.map fun x => Value.int .u8 (x.toNat : Int))).heap.size = w5.heap.size := by
            have h1 := below_setCells (a := w5) (B := w2.heap.size) (b := w2.heap.size) (Nat.le_refl _) (T.data.toList.map fun x => Value.int .u8 (x.toNat : Int)) (t * 16) w5 (Below.refl _ _)
            have : ∀ (vs : List Value) (o : Nat) (w : World), (w.setCells w2.heap.size o vs).heap.size = w.heap.size := by
              intro vs
              induction vs with
              | nil => intro o w; rfl
              | cons v r ih => intro o w; rw [World.setCells, ih]; simp [World.setCell]
            exact this _ _ _
          omega
      case measure => simp [intOf]; omega
    · obtain rfl : k = n := by omega
      have hend : layAll (nts (M * 16)) l = b := by rw [hbb.out.2, List.drop_of_length_le (by rw [← HN.out]; exact Nat.le_refl _)]; rfl
      have hcv := run_convert_bytes_back (P := Try.prog) wr 70 9 5 ⟨w2.heap.size, 0, none⟩ K b Try.underlying70 Try.underlying5 Try.underlying9 (fun j hj => by rw [Addr.add_lit, Nat.zero_add]; exact (hby.out j hj).1)
      rw [show b.length = Z by rw [HZ.out, HSS.out]; exact hbb.out.1] at hcv
      have HEND := Lib.hid hend
      have HBW := Lib.hid hbw.out.2
      clear hend hby hbb hbw
      go_wp2
      go_ret
      exact ⟨by rw [HEND.out]; rfl, HBW.out⟩
theorem rightFrom_all (c : Int) (cs : List C) : ∀ last, -1 ≤ last → rightFrom c last cs = true → ∀ x ∈ cs, 0 ≤ x.1 ∧ x.1 < c ∧ (x.2.size = 0 ∨ x.2.size = 16) := by
  induction cs with
  | nil => intro _ _ _ x hx; cases hx
  | cons y r ih =>
    intro last hl h x hx
    rw [rightFrom] at h
    cases hb : badC c last y with
    | true => rw [hb, if_pos rfl] at h; cases h
    | false =>
      rw [hb, if_neg (by decide)] at h
      unfold badC at hb
      simp only [Bool.or_eq_false_iff, Bool.and_eq_false_imp, decide_eq_false_iff_not, decide_eq_true_eq] at hb
      have hy : 0 ≤ y.1 ∧ y.1 < c ∧ (y.2.size = 0 ∨ y.2.size = 16) := by
        refine ⟨by omega, by omega, ?_⟩
        by_cases h0 : y.2.size = 0
        · exact .inl h0
        · have := (hb.2 h0).1
          exact .inr (by omega)
      rcases List.mem_cons.1 hx with rfl | hx
      · exact hy
      · exact ih y.1 (by omega) h x hx
theorem cell_Flat.calls (a0_0 : Int) (A0_1 : Option Addr) (c0_1 : Nat) (l0_1 : List SC) (r : ByteArray) (w : World) (hr0_1 : Kd.C kC w A0_1 l0_1.length l0_1) (hc0_1 : l0_1.length ≤ c0_1) (h : cell_Flat.f a0_0 l0_1 = some r) :
    Calls Try.prog 23 #[.agg #[.int .i64 a0_0, .slice A0_1 l0_1.length c0_1]] w fun e w' => e = .returned (.string r) ∧ Below w.heap.size w w' := by
  unfold cell_Flat.f at h
  split at h
  · rename_i hs
    have hcr := crow_of_C hr0_1 hs.2
    split at h
    · rename_i hg
      obtain rfl := Option.some.inj h
      have hg' := hg
      unfold rightB newR at hg'
      simp only [Bool.and_eq_true] at hg'
      have h64 : 1 ≤ a0_0 ∧ a0_0 ≤ 64 := by
        have := hg'.2
        by_cases h1 : a0_0 < 1 ∨ 64 < a0_0
        · rw [if_pos h1] at this; simp at this
        · omega
      obtain ⟨M, rfl⟩ : ∃ M : Nat, a0_0 = (M : Int) := ⟨a0_0.toNat, by omega⟩
      have hall := rightFrom_all _ _ _ (Int.le_refl _) hg'.1
      rw [Int.toNat_natCast]
      refine flat_any A0_1 c0_1 M l0_1 w hs.1 (by omega) (by omega) (cellsAt_of_C hr0_1) hcr hg (fun x hx => ?_)
      obtain ⟨h1, h2, h3⟩ := hall (x.f0, x.f1) (List.mem_map.2 ⟨x, hx, rfl⟩)
      dsimp only at h1 h2 h3
      refine ⟨h1, h2, ?_⟩
      unfold textB
      rcases h3 with h3 | h3
      · rw [if_pos h3]; show (nts 16).toArray.size = 16; simp [nts]
      · rw [if_neg (by omega)]; exact h3
    · rename_i hg
      obtain rfl := Option.some.inj h
      have hri := fun (w1 : World) (h1 : Below w.heap.size w w1) => cright_any A0_1 l0_1.length c0_1 a0_0 (prs l0_1) w1 hs.1 (hcr.below h1)
      rw [show rightB a0_0 (prs l0_1) = false by simpa using hg] at hri
      obtain ⟨n, hn⟩ : ∃ n, n = l0_1.length := ⟨_, rfl⟩
      rw [← hn] at hri ⊢
      have HRI := Lib.hid hri
      have HBEL := Lib.hid ((Below.refl w.heap.size w).alloc (Nat.le_refl _) (.cells #[.int .i64 a0_0, .slice A0_1 n c0_1] 26))
      clear hri hn hg hcr hs hr0_1 hc0_1 h
      go_enter Try.func23, Try.ntmps23
      go_wp2_with fail
      refine (HRI.out _ HBEL.out).mono ?_
      rintro e w1 ⟨rfl, hb1⟩
      have H2 := Lib.hid (HBEL.out.trans (hb1.mono HBEL.out.size))
      clear hb1
      go_wp2
      go_ret
      exact ⟨rfl, H2.out⟩
  · cases h
end Go.Proofs.Ytbeloaccgmgocaa.Pr
