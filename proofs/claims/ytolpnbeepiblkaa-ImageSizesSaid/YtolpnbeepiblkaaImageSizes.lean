/- The walk of rootcellarlaw10.ImageSizes: it returns true whatever is handed in; nothing that was there is turned. Conditions: the slice's cells lie. -/
import Derived.Test.YtolpnbeepiblkaaShown10
import Derived.Deep.OwnRows
namespace Go.Proofs.Ytolpnbeepiblkaa
open Go.RowKit
open Go.BigFrame
set_option linter.unusedVariables false
def gcnt (t : Nat → Nat) : Nat → Nat
  | 0 => 0
  | k + 1 => gcnt t k + if 0 < t k then 1 else 0
theorem gcnt_le (t : Nat → Nat) (k : Nat) : gcnt t k ≤ k := by
  induction k with
  | zero => exact Nat.le_refl _
  | succ k ih => rw [gcnt]; split <;> omega
theorem rowTo_length (t : Nat → Nat) (k : Nat) : (rowTo t k).length = 2 * gcnt t k := by
  induction k with
  | zero => rfl
  | succ k ih =>
    rw [rowTo, gcnt, List.length_append, ih]
    split
    · rw [LeP.bytes_length]; omega
    · simp
def tcnt : List C → Nat
  | [] => 0
  | c :: r => (if c.2.size = 0 then 0 else 1) + tcnt r
theorem tcnt_append (l m : List C) : tcnt (l ++ m) = tcnt l + tcnt m := by
  induction l with
  | nil => simp [tcnt]
  | cons c l ih => rw [List.cons_append, tcnt, tcnt, ih]; omega
theorem tcnt_le (l : List C) : tcnt l ≤ l.length := by
  induction l with
  | nil => exact Nat.le_refl _
  | cons c l ih => rw [tcnt, List.length_cons]; split <;> omega
theorem texts_length {clusters : Int} (cs : List C) : ∀ (last : Int), Good clusters last cs → (texts cs).length = 16 * tcnt cs := by
  induction cs with
  | nil => intros; simp [texts, tcnt]
  | cons c r ih =>
    intro last h
    have := ih _ h.2.2.2
    have hs : c.2.data.toList.length = c.2.size := Array.length_toList
    have e : texts (c :: r) = c.2.data.toList ++ texts r := by simp [texts]
    rw [e, List.length_append, hs, tcnt, this]
    rcases h.2.2.1 with h | h
    · rw [if_pos h]; omega
    · rw [if_neg (by omega)]; omega
def gArr (t : Nat → Nat) : Array Value := ((List.range 8).map fun g => Value.int .i64 (if 0 < t g then 1 else 0)).toArray
theorem gArr_get (t : Nat → Nat) (g : Nat) (h : g < 8) : (gArr t)[g]? = some (.int .i64 (if 0 < t g then 1 else 0)) := by
  simp [gArr, h]
theorem gArr_set (t t' : Nat → Nat) (g : Nat) (h : g < 8) (hs : ∀ x, x ≠ g → t' x = t x) (hg : 0 < t' g) : (gArr t).setIfInBounds g (.int .i64 1) = gArr t' := by
  apply Array.ext'
  apply List.ext_getElem?
  intro i
  rw [Array.getElem?_toList, Array.getElem?_toList, Array.getElem?_setIfInBounds]
  by_cases hi : i < 8
  · rw [gArr_get t' i hi]
    by_cases e : g = i
    · subst e
      rw [if_pos rfl, if_pos (by simp [gArr, h]), if_pos hg]
    · rw [if_neg e, gArr_get t i hi, hs i (fun h => e h.symm)]
  · have e1 : (gArr t)[i]? = none := Array.getElem?_eq_none (by simp [gArr]; omega)
    have e2 : (gArr t')[i]? = none := Array.getElem?_eq_none (by simp [gArr]; omega)
    rw [e1, e2, if_neg (by omega)]
theorem put_length {id parent clusters : Nat} {cs : List C} (h : Good (clusters : Int) (-1) cs) : (bs (sealed (bodyL id parent clusters cs))).size = 18 + 2 * gcnt (tabs cs) 8 + 16 * tcnt cs := by
  rw [bs_size, sealed_length, bodyL]
  simp only [List.length_append, LeP.bytes_length]
  rw [rowTo_length, texts_length cs (-1) h]
  have : magicL.length = 4 := rfl
  omega
theorem int_info : (Try.prog.info? 3).map (fun i => (i.zero, i.size, i.bytes)) = some (some (.int .i64 0), 1, 8) := by kernel_rfl
set_option maxRecDepth 100000 in
set_option maxHeartbeats 1600000 in
theorem imageSizes_walk (A : Option Addr) (len cap : Nat) (id parent clusters : Int) (cs : List C) (w : World) (hl : len ≤ maxLen) (hr : CRow w A len cs) :
    Calls Try.prog 3 #[.agg #[.int .i64 id, .int .i64 parent, .int .i64 clusters, .slice A len cap]] w fun e w' => e = .returned (.bool true) ∧ Below w.heap.size w w' := by
  have hmk : ∀ w : World, (Instr.makeSlice 31 (.int .i64 8) (.int .i64 8)).run Try.prog w = .ok (.slice (some ⟨w.heap.size, 0, none⟩) 8 8) (w.alloc (.cells (gArr fun _ => 0) 3)) := by
    intro w
    have h := run_make_row' (P := Try.prog) 31 3 (.int .i64 0) 8 Try.underlying31 int_info rfl .i64 .i64 8 (by omega) (by omega) w
    rw [show madeCells #[Value.int .i64 0] 8 = gArr fun _ => 0 from by kernel_rfl] at h
    exact h
  have hb := Blk.new w 26 #[.int .i64 id, .int .i64 parent, .int .i64 clusters, .slice A len cap]
  have hb0 : Below w.heap.size w (w.alloc (.cells #[.int .i64 id, .int .i64 parent, .int .i64 clusters, .slice A len cap] 26)) := (Below.refl _ _).alloc (Nat.le_refl _) _
  have HB := Lib.hid hb
  have H0 := Lib.hid hb0
  have HR := Lib.hid hr
  have HL := Lib.hid hl
  clear hb hb0 hr hl
  go_enter Try.func3, Try.ntmps3
  go_wp2_with fail
  refine (shown10_any _).mono ?_
  rintro e w1 ⟨rfl, hb1⟩
  have hb := HB.out.below hb1 (by simp)
  have hbel := H0.out.trans (hb1.mono H0.out.size)
  have HB1 := Lib.hid hb
  have H1 := Lib.hid hbel
  clear hb hbel hb1 HB H0
  have b0 := HB1.out.cell 0
  have b1 := HB1.out.cell 1
  have b2 := HB1.out.cell 2
  have b3 := HB1.out.cell 3
  rw [show (#[Value.int IntKind.i64 id, .int .i64 parent, .int .i64 clusters, .slice A len cap] : Array Value)[0]? = some (.int .i64 id) from rfl] at b0
  rw [show (#[Value.int IntKind.i64 id, .int .i64 parent, .int .i64 clusters, .slice A len cap] : Array Value)[1]? = some (.int .i64 parent) from rfl] at b1
  rw [show (#[Value.int IntKind.i64 id, .int .i64 parent, .int .i64 clusters, .slice A len cap] : Array Value)[2]? = some (.int .i64 clusters) from rfl] at b2
  rw [show (#[Value.int IntKind.i64 id, .int .i64 parent, .int .i64 clusters, .slice A len cap] : Array Value)[3]? = some (.slice A len cap) from rfl] at b3
  by_cases h80 : 80 < len
  · go_wp2_with fail
    go_ret
    exact ⟨rfl, H1.out⟩
  · have hput := iput_any A len cap id parent clusters cs w1 HL.out (HR.out.below H1.out)
    cases hf : frB id parent clusters cs with
    | false =>
      have hp : putR id parent clusters cs = (bs [], 1) := by unfold putR; rw [hf, if_neg (by decide)]
      rw [hp] at hput
      have HP := Lib.hid hput
      have hemp : ((bs []).toList == []) = true := by decide +kernel
      obtain ⟨em, hem⟩ : ∃ em, em = bs [] := ⟨_, rfl⟩
      rw [← hem] at HP hemp
      clear hput hp hf hem
      go_wp2_with fail
      refine HP.out.mono ?_
      rintro e w2 ⟨rfl, hb2⟩
      go_wp2_with fail
      go_ret
      exact ⟨by simp, H1.out.trans (hb2.mono H1.out.size)⟩
    | true =>
      obtain ⟨hrb, hi1, hi2, hp1, hp2, hne⟩ := frB_parts _ _ _ _ hf
      obtain ⟨hgood, hc1, hc64⟩ := rightB_parts _ _ hrb
      have hp : putR id parent clusters cs = (bs (sealed (bodyL id.toNat parent.toNat clusters.toNat cs)), 0) := by unfold putR; rw [hf, if_pos rfl]
      rw [hp] at hput
      obtain ⟨M, rfl⟩ : ∃ I : Nat, clusters = (I : Int) := ⟨clusters.toNat, by omega⟩
      have hsz := put_length (id := id.toNat) (parent := parent.toNat) hgood
      rw [Int.toNat_natCast] at hput
      obtain ⟨S, hS⟩ : ∃ S, S = bs (sealed (bodyL id.toNat parent.toNat M cs)) := ⟨_, rfl⟩
      rw [← hS] at hput hsz
      have hlen := HR.out.1
      have HP := Lib.hid hput
      have HG := Lib.hid hgood
      have HSZ := Lib.hid hsz
      have HLEN := Lib.hid hlen
      clear hput hp hf hS hrb hgood hsz hne hlen hi1 hi2 hp1 hp2
      go_wp2_with fail
      refine HP.out.mono ?_
      rintro e w2 ⟨rfl, hb2⟩
      have hb := HB1.out.below hb2 HB1.out.lt
      have hbel := H1.out.trans (hb2.mono H1.out.size)
      have HB2 := Lib.hid hb
      have H2 := Lib.hid hbel
      clear hb hbel hb2 HB1 H1 b0 b1 b2 b3
      go_wp2_with fail
      go_loopw [7, 8] (fun tc i wr => ∃ k : Nat, k ≤ len ∧ i = .int .i64 k ∧ tc = .int .i64 ((tcnt (cs.take k) : Nat) : Int) ∧ Blk wr w.heap.size 26 #[.int .i64 id, .int .i64 parent, .int .i64 (M : Int), .slice A len cap] ∧ Blk wr w2.heap.size 3 (gArr (tabs (cs.take k))) ∧ Below w.heap.size w wr) (fun _ i _ => len - (intOf i).toNat)
      case atStart =>
        exact ⟨0, by omega, rfl, rfl, HB2.out.alloc _, Blk.new w2 _ _, H2.out.alloc H2.out.size _⟩
      case round =>
        obtain ⟨k, hk, rfl, rfl, hb, hg, hbel⟩ := hrel
        have b3 := hb.cell 3
        rw [show (#[Value.int IntKind.i64 id, .int .i64 parent, .int .i64 (M : Int), .slice A len cap] : Array Value)[3]? = some (.slice A len cap) from rfl] at b3
        by_cases hlt : k < len
        · have hkl : k < cs.length := by rw [HLEN.out]; exact hlt
          obtain ⟨b, off, rfl, hblt, hcell⟩ := HR.out.2.2 (by omega)
          obtain ⟨hc0, hc1'⟩ := hcell k hkl
          have hgk := HG.out.drop k hkl
          obtain ⟨a, tx, hc, ha⟩ : ∃ (a : Nat) (t : ByteArray), cs[k]'hkl = ((a : Int), t) ∧ a < 64 := ⟨(cs[k]'hkl).1.toNat, (cs[k]'hkl).2, by
            have e : (((cs[k]'hkl).1.toNat : Nat) : Int) = (cs[k]'hkl).1 := by omega
            rw [e], by omega⟩
          rw [hc] at hc0 hc1'
          dsimp only at hc0 hc1'
          have hst := tabs_step cs k a _ hkl hc rfl
          have htc : tcnt (cs.take (k + 1)) = tcnt (cs.take k) + (if tx.size = 0 then 0 else 1) := by
            rw [List.take_succ_eq_append_getElem hkl, hc, tcnt_append, tcnt, tcnt]; show _ + ((if tx.size = 0 then 0 else 1) + 0) = _; omega
          have hpos : 0 < tabs (cs.take (k + 1)) (a / 8) := by
            rw [hst.1]
            have h1 := (kindN_le ((a : Int), tx)).1
            have h2 : 0 < 4 ^ (a % 8) := Nat.pow_pos (by decide)
            have h3 := Nat.mul_pos (show 0 < kindN ((a : Int), tx) by omega) h2
            omega
          have d0 := (hbel.cell (p := ⟨b, off + k * 2, none⟩) hblt).trans hc0
          have d1 := (hbel.cell (p := ⟨b, off + k * 2 + 1, none⟩) hblt).trans hc1'
          have e4 := hg.cell (a / 8)
          rw [gArr_get _ _ (by omega)] at e4
          have e5 := hg.frozen (a / 8)
          have htcl : tcnt (cs.take k) ≤ 80 := by have := tcnt_le (cs.take k); rw [List.length_take] at this; omega
          have hgs := hg.set_ (a / 8) (.int .i64 1)
          rw [gArr_set (tabs (cs.take k)) (tabs (cs.take (k + 1))) (a / 8) (by omega) hst.2 hpos] at hgs
          have hbs := hb.far (p := ⟨w2.heap.size, a / 8, none⟩) (by have := H2.out.size; have := HB2.out.lt; simp; omega) (.int .i64 1)
          have hls := hbel.setCell (p := ⟨w2.heap.size, a / 8, none⟩) H2.out.size (.int .i64 1)
          have hne : w2.heap.size ≠ b := by have := H2.out.size; omega
          have hne2 : w2.heap.size ≠ w.heap.size := by have := HB2.out.lt; omega
          have HGS := Lib.hid hgs
          have HBS := Lib.hid hbs
          have HLS := Lib.hid hls
          have HTC := Lib.hid htc
          obtain ⟨tcn, htn⟩ : ∃ n, n = tcnt (cs.take k) := ⟨_, rfl⟩
          rw [← htn] at htcl
          rw [← htn]
          rw [← htn] at HTC
          clear hgs hbs hls hst htc hpos hb hg hbel hcell hc0 hc1' hgk hc htn
          by_cases h0 : tx.size = 0
          · have hn0 : (tx.toList == []) = true := by rw [empty_list, decide_eq_true_eq]; exact h0
            have htc1 : tcnt (cs.take (k + 1)) = tcn := by rw [HTC.out, if_pos h0]; rfl
            have HT1 := Lib.hid htc1
            clear h0 htc1
            go_wp2
            go_roundw
            case rel => exact ⟨k + 1, by omega, by go_num, by rw [HT1.out], HBS.out, HGS.out, HLS.out⟩
            case measure => simp [intOf]; omega
          · have hn0 : (tx.toList == []) = false := by rw [empty_list, decide_eq_false_iff_not]; exact h0
            have htc1 : tcnt (cs.take (k + 1)) = tcn + 1 := by rw [HTC.out, if_neg h0]
            have HT1 := Lib.hid htc1
            clear h0 htc1
            go_wp2
            go_roundw
            case rel => exact ⟨k + 1, by omega, by go_num, by rw [HT1.out]; rfl, HBS.out, HGS.out, HLS.out⟩
            case measure => simp [intOf]; omega
        · obtain rfl : k = len := by omega
          have htk : cs.take k = cs := List.take_of_length_le (by rw [HLEN.out]; omega)
          rw [htk] at hg
          rw [htk]
          obtain ⟨tcn, htn⟩ : ∃ n, n = tcnt cs := ⟨_, rfl⟩
          have htl : tcn ≤ 80 := by rw [htn]; have := tcnt_le cs; rw [HLEN.out] at this; omega
          rw [← htn]
          have HTN := Lib.hid htn
          have HG1 := Lib.hid hg
          have HBL := Lib.hid hbel
          clear hg hbel hb htk htn
          go_wp2_with fail
          go_loop [9, 10] (fun n i => ∃ j : Nat, j ≤ 8 ∧ i = .int .i64 j ∧ n = .int .i64 ((gcnt (tabs cs) j : Nat) : Int)) (fun _ i => 8 - (intOf i).toNat)
          case atStart => exact ⟨0, by omega, rfl, rfl⟩
          case round =>
            obtain ⟨j, hj, rfl, rfl⟩ := hrel
            have hgl := gcnt_le (tabs cs) j
            obtain ⟨gn, hgn⟩ : ∃ n, n = gcnt (tabs cs) j := ⟨_, rfl⟩
            rw [← hgn] at hgl
            rw [← hgn]
            by_cases hj8 : j < 8
            · have e4 := HG1.out.cell j
              rw [gArr_get _ _ hj8] at e4
              by_cases hp : 0 < tabs cs j
              · rw [if_pos hp] at e4
                have h1 : gcnt (tabs cs) (j + 1) = gn + 1 := by rw [gcnt, ← hgn, if_pos hp]
                have H1 := Lib.hid h1
                clear h1 hp hgn
                go_wp2
                go_round
                case rel => exact ⟨j + 1, by omega, by go_num, by rw [H1.out]; rfl⟩
                case measure => simp [intOf]; omega
              · rw [if_neg hp] at e4
                have h1 : gcnt (tabs cs) (j + 1) = gn := by rw [gcnt, ← hgn, if_neg hp]; rfl
                have H1 := Lib.hid h1
                clear h1 hp hgn
                go_wp2
                go_round
                case rel => exact ⟨j + 1, by omega, by go_num, by rw [H1.out]⟩
                case measure => simp [intOf]; omega
            · obtain rfl : j = 8 := by omega
              have hfin : ((S.size : Int) == 18 + 2 * (gn : Int) + 16 * (tcn : Int)) = true := by
                rw [beq_iff_eq, HSZ.out, hgn, HTN.out]; omega
              have hsS : S.size ≤ 100000 := by rw [HSZ.out, ← hgn, ← HTN.out]; omega
              clear hgn
              go_wp2
              go_ret
              exact ⟨rfl, HBL.out⟩
end Go.Proofs.Ytolpnbeepiblkaa
