/- The contract of image.tables at a right image. Conditions: the slice's cells lie; the image is right. -/
import Derived.Test.YtolpnbeepiblkaaImageRight
import Derived.Test.YtolpnbeepiblkaaImageP
import Derived.Test.YtolpnbeepiblkaaBuild
import Derived.Test.YtolpnbeepiblkaaQuietTail
import Derived.BigQuiet
namespace Go.Proofs.Ytolpnbeepiblkaa
open Go.RowKit
open Go.BigFrame
set_option linter.unusedVariables false
theorem tb_info : (Try.prog.info? 61).map (·.size) = some 8 := by kernel_rfl
theorem bd_keep {B b : Nat} {bs : List Value} {w w' : World} {g : Nat} {cs : Array Value} {T : TypeId} {fr : Nat × Nat} (h : Lib.IsBuilder 81 5 B b bs w) (hg : w.grownBy w' (some g)) (hgb : g ≠ b) (hc : w.heap[g]? = some (.cells cs T fr)) (hT : T ≠ 5) : Lib.IsBuilder 81 5 B b bs w' := by
  have key : ∀ p, Lib.BuilderAt 81 5 B b p bs w → Lib.BuilderAt 81 5 B b p bs w' := by
    intro p hp
    have hlt := hp.lt
    obtain ⟨hB, v, hb, hown, hne⟩ := hp
    exact ⟨hB, v, (hg.block b hlt (by intro e; injection e with e; exact hgb e.symm)).trans hb, hown.kept hg (.inr (Lib.ownBlock_ne hown hc hT)), hne⟩
  rcases h with h | h
  · exact .inl (key _ h)
  · exact .inr (key _ h)
theorem bd_alloc {B b : Nat} {bs : List Value} {w : World} (h : Lib.IsBuilder 81 5 B b bs w) (o : Obj) : Lib.IsBuilder 81 5 B b bs (w.alloc o) := by
  have key : ∀ p, Lib.BuilderAt 81 5 B b p bs w → Lib.BuilderAt 81 5 B b p bs (w.alloc o) := by
    intro p hp
    have hlt := hp.lt
    obtain ⟨hB, v, hb, hown, hne⟩ := hp
    exact ⟨hB, v, (Below.heap_alloc w o b hlt).trans hb, hown.alloc o, hne⟩
  rcases h with h | h
  · exact .inl (key _ h)
  · exact .inr (key _ h)
theorem bd_lt {B b : Nat} {bs : List Value} {w : World} (h : Lib.IsBuilder 81 5 B b bs w) : b < w.heap.size := by
  rcases h with h | h
  · exact h.lt
  · exact h.lt
theorem bd_drew {B b : Nat} {bs : List Value} {w : World} (h : Lib.IsBuilder 81 5 B b bs w) : Lib.IsBuilder 81 5 B b bs w.drew := h
def tabArr (t : Nat → Nat) : Array Value := ((List.range 8).map fun g => Value.int .u64 ((t g : Nat) : Int)).toArray
theorem tabArr_get (t : Nat → Nat) (g : Nat) (h : g < 8) : (tabArr t)[g]? = some (.int .u64 ((t g : Nat) : Int)) := by
  simp [tabArr, h]
theorem tabArr_set (t t' : Nat → Nat) (g : Nat) (h : g < 8) (hs : ∀ x, x ≠ g → t' x = t x) : (tabArr t).setIfInBounds g (.int .u64 ((t' g : Nat) : Int)) = tabArr t' := by
  apply Array.ext'
  apply List.ext_getElem?
  intro i
  rw [Array.getElem?_toList, Array.getElem?_toList, Array.getElem?_setIfInBounds]
  by_cases hi : i < 8
  · rw [tabArr_get t' i hi]
    by_cases e : g = i
    · subst e
      rw [if_pos rfl, if_pos (by simp [tabArr, h])]
    · rw [if_neg e, tabArr_get t i hi, hs i (fun h => e h.symm)]
  · have e1 : (tabArr t)[i]? = none := Array.getElem?_eq_none (by simp [tabArr]; omega)
    have e2 : (tabArr t')[i]? = none := Array.getElem?_eq_none (by simp [tabArr]; omega)
    rw [e1, e2, if_neg (by omega)]
theorem or_kind (ov kd n : Nat) (hov : ov < 4 ^ n) (hk : kd ≤ 2) (hn : n ≤ 7) : bits .or .u64 (ov : Int) (IntKind.u64.wrap ((kd * 4 ^ n : Nat) : Int)) = ((ov + kd * 4 ^ n : Nat) : Int) := by
  have hp : 4 ^ n ≤ 4 ^ 7 := Nat.pow_le_pow_right (by decide) hn
  have h7 : (4 : Nat) ^ 7 = 16384 := rfl
  have hm : kd * 4 ^ n ≤ 2 * 4 ^ n := Nat.mul_le_mul_right _ hk
  rw [IntKind.wrap_u64, show ((kd * 4 ^ n : Nat) : Int) % 18446744073709551616 = ((kd * 4 ^ n : Nat) : Int) by omega, u64_or_nat _ _ (by omega) (by omega)]
  have e : (4 : Nat) ^ n = 2 ^ (2 * n) := by rw [show (4 : Nat) = 2 ^ 2 from rfl, ← Nat.pow_mul]
  rw [e] at hov ⊢
  rw [LeP.or_shift _ _ _ hov, Nat.mul_comm]
theorem four_pow (n : Nat) : ((4 ^ n : Nat) : Int) = 2 ^ (2 * n) := by
  rw [show (4 : Nat) = 2 ^ 2 from rfl, ← Nat.pow_mul, Int.natCast_pow]; rfl
theorem or_one (ov n : Nat) (hov : ov < 4 ^ n) (hn : n ≤ 7) : bits .or .u64 (ov : Int) (IntKind.u64.wrap (2 ^ (2 * n))) = ((ov + 1 * 4 ^ n : Nat) : Int) := by
  rw [← or_kind ov 1 n hov (by omega) hn, Nat.one_mul, four_pow]
theorem or_two (ov n : Nat) (hov : ov < 4 ^ n) (hn : n ≤ 7) : bits .or .u64 (ov : Int) (IntKind.u64.wrap (2 * 2 ^ (2 * n))) = ((ov + 2 * 4 ^ n : Nat) : Int) := by
  rw [← or_kind ov 2 n hov (by omega) hn, Int.natCast_mul, four_pow]; rfl
abbrev z8 : Array Value := #[.int .u64 0, .int .u64 0, .int .u64 0, .int .u64 0, .int .u64 0, .int .u64 0, .int .u64 0, .int .u64 0]
theorem tab0 : tabArr (fun _ => 0) = z8 := rfl
theorem tab0' : tabArr (tabs []) = z8 := rfl
theorem tabs_step (cs : List C) (k a : Nat) (c : C) (hk : k < cs.length) (hc : cs[k] = c) (ha : c.1 = (a : Int)) :
    (tabs (cs.take (k + 1)) (a / 8) = tabs (cs.take k) (a / 8) + kindN c * 4 ^ (a % 8)) ∧ ∀ x, x ≠ a / 8 → tabs (cs.take (k + 1)) x = tabs (cs.take k) x := by
  have e : cs.take (k + 1) = cs.take k ++ [c] := by rw [List.take_succ_eq_append_getElem hk, hc]
  refine ⟨?_, fun x hx => ?_⟩
  · rw [e, tabs_append, tabs, tabs, if_pos (by rw [ha]; rfl), ha]; rfl
  · rw [e, tabs_append, tabs, tabs, if_neg (by rw [ha]; intro h; exact hx h.symm)]; rfl
theorem texts_step (cs : List C) (k : Nat) (c : C) (hk : k < cs.length) (hc : cs[k] = c) : texts (cs.take (k + 1)) = texts (cs.take k) ++ c.2.data.toList := by
  rw [List.take_succ_eq_append_getElem hk, hc, texts_append]
  simp [texts]
theorem strCells_list (s : ByteArray) : Lib.strCells s = Lib.byteCells s.data.toList := rfl
theorem byteCells_append (l m : List UInt8) : Lib.byteCells (l ++ m) = Lib.byteCells l ++ Lib.byteCells m := by simp [Lib.byteCells]
set_option maxRecDepth 100000 in
set_option maxHeartbeats 1600000 in
theorem tables_any (A : Option Addr) (len cap : Nat) (clusters : Int) (cs : List C) (w : World) (hl : len ≤ maxLen) (hr : CRow w A len cs) (hok : rightB clusters cs = true) :
    Calls Try.prog 23 #[.agg #[.int .i64 clusters, .slice A len cap]] w fun e w' => e = .returned (.tuple #[.agg (tabArr (tabs cs)), .string ⟨(texts cs).toArray⟩]) ∧ Below w.heap.size w w' := by
  unfold maxLen at hl
  obtain ⟨hgood, hc1, hc64⟩ := rightB_parts _ _ hok
  have hlen := hr.1
  have HR := Lib.hid hr
  have HG := Lib.hid hgood
  have hl64 : len ≤ 64 := by have := hgood.length (by omega); omega
  have HLEN := Lib.hid hlen
  clear hr hok hgood hlen
  have htk : ∀ k, (texts (cs.take k)).length ≤ 16 * 64 := by
    intro k
    have h1 := texts_le _ (-1) (HG.out.take k)
    have h2 : (cs.take k).length ≤ 64 := by rw [List.length_take, HLEN.out]; omega
    omega
  have HTK := Lib.hid htk
  clear htk
  go_enter Try.func23, Try.ntmps23
  go_wp2_with fail
  go_loopw [12] (fun i wr => ∃ (k : Nat), k ≤ len ∧ i = .int .i64 k ∧ Blk wr (w.heap.size + 1) 61 (tabArr fun _ => 0) ∧ Blk wr (w.heap.size + 1 + 1) 61 (tabArr (tabs (cs.take k))) ∧ Lib.IsBuilder 81 5 (w.heap.size + 1 + 1 + 1) (w.heap.size + 1 + 1 + 1) (Lib.byteCells (texts (cs.take k))) wr ∧ Below w.heap.size w wr) (fun i _ => len - (intOf i).toNat)
  case atStart =>
    refine ⟨0, by omega, rfl, ?_, ?_, ?_, ?_⟩
    · rw [tab0]; exact ((blk_new1 w _ _ _).alloc _).alloc _
    · rw [List.take_zero, tab0']
      have := (blk_new1 (w.alloc (.cells #[.int .i64 clusters, .slice A len cap] 24)) (.cells z8 61) 61 z8).alloc (.cells #[Value.pointer none, .slice none 0 0] 81)
      rw [show (w.alloc (.cells #[.int .i64 clusters, .slice A len cap] 24)).heap.size = w.heap.size + 1 by simp] at this
      exact this
    · have := Lib.fresh_isBuilder 81 5 (((w.alloc (.cells #[.int .i64 clusters, .slice A len cap] 24)).alloc (.cells z8 61)).alloc (.cells z8 61))
      rw [show (((w.alloc (.cells #[.int .i64 clusters, .slice A len cap] 24)).alloc (.cells z8 61)).alloc (.cells z8 61)).heap.size = w.heap.size + 1 + 1 + 1 by simp] at this
      exact this
    · exact ((((Below.refl _ _).alloc (Nat.le_refl _) _).alloc (by simp) _).alloc (by simp; omega) _).alloc (by simp; omega) _
  case round =>
    obtain ⟨k, hk, rfl, hT2, hT4, hbd, hbel⟩ := hrel
    have hbsz := bd_lt hbd
    by_cases hlt : k < len
    · have hkl : k < cs.length := by rw [HLEN.out]; exact hlt
      obtain ⟨b, off, rfl, hblt, hcell⟩ := HR.out.2.2 (by omega)
      obtain ⟨hc0, hc1⟩ := hcell k hkl
      have hgk := HG.out.drop k hkl
      obtain ⟨a, tx, hc, ha⟩ : ∃ (a : Nat) (t : ByteArray), cs[k]'hkl = ((a : Int), t) ∧ a < 64 := ⟨(cs[k]'hkl).1.toNat, (cs[k]'hkl).2, by
        have e : (((cs[k]'hkl).1.toNat : Nat) : Int) = (cs[k]'hkl).1 := by omega
        rw [e], by omega⟩
      have hbf := tabs_before HG.out k hkl a (by rw [hc])
      rw [hc] at hc0 hc1 hgk
      dsimp only at hc0 hc1 hgk
      have htx : tx.size ≤ 16 := by rcases hgk.2.2 with h | h <;> omega
      have hst := tabs_step cs k a _ hkl hc rfl
      have hts := texts_step cs k _ hkl hc
      have d0 := (hbel.cell (p := ⟨b, off + k * 2, none⟩) hblt).trans hc0
      have d1 := (hbel.cell (p := ⟨b, off + k * 2 + 1, none⟩) hblt).trans hc1
      have hB1 := Blk.new wr 33 #[.int .i64 (a : Int), .string tx]
      have e2 := hB1.cell 0
      have e3 := hB1.cell 1
      rw [show (#[Value.int IntKind.i64 (a : Int), .string tx] : Array Value)[0]? = some (.int .i64 (a : Int)) from rfl] at e2
      rw [show (#[Value.int IntKind.i64 (a : Int), .string tx] : Array Value)[1]? = some (.string tx) from rfl] at e3
      have hT2' := hT2.alloc (.cells #[.int .i64 (a : Int), .string tx] 33)
      have hT4' := hT4.alloc (.cells #[.int .i64 (a : Int), .string tx] 33)
      have hbd' := bd_alloc hbd (.cells #[.int .i64 (a : Int), .string tx] 33)
      have hbel' := hbel.alloc hbel.size (.cells #[.int .i64 (a : Int), .string tx] 33)
      have e4 := hT4'.cell (a / 8)
      rw [tabArr_get _ _ (by omega)] at e4
      have e5 := hT4'.frozen (a / 8)
      obtain ⟨ov, hov⟩ : ∃ ov, ov = tabs (cs.take k) (a / 8) := ⟨_, rfl⟩
      rw [← hov] at e4 hbf hst
      have hbig := HTK.out k
      have H1 := Lib.hid hT2'
      have H2 := Lib.hid hT4'
      have H3 := Lib.hid hbd'
      have H4 := Lib.hid hbel'
      have HST := Lib.hid hst
      have HTS := Lib.hid hts
      have HC := Lib.hid hc
      have E2 := Lib.hid e2
      have E3 := Lib.hid e3
      have E4 := Lib.hid e4
      have E5 := Lib.hid e5
      have HBF := Lib.hid hbf
      clear hcell hc0 hc1 e2 e3 e4 e5 hB1 hT2 hT4 hbd hbel hT2' hT4' hbd' hbel' hst hts hc hov hgk hbf
      go_upto_region 6 with fail
      generalize (wr.alloc (.cells #[.int .i64 (a : Int), .string tx] 33)) = w1 at H1 H2 H3 H4 E2 E3 E4 E5 ⊢
      have e2 := E2.out
      have e3 := E3.out
      have e4 := E4.out
      have e5 := E5.out
      clear d0 d1
      by_cases h0 : tx.size = 0
      · skip
        have hn0 : (tx.toList == []) = true := by rw [empty_list, decide_eq_true_eq]; exact h0
        have hkd : kindN ((a : Int), tx) = 1 := by unfold kindN; rw [if_pos h0]
        have hor := or_one ov (a % 8) HBF.out (by omega)
        have HKD := Lib.hid hkd
        have HOR := Lib.hid hor
        clear h0 hkd hor
        go_wp2_with fail
        go_region
        have hval : ((ov + 1 * 4 ^ (a % 8) : Nat) : Int) = ((tabs (cs.take (k + 1)) (a / 8) : Nat) : Int) := by rw [HST.out.1, HKD.out]
        rw [HOR.out, hval]
        have h2s := H2.out.set_ (a / 8) (.int .u64 ((tabs (cs.take (k + 1)) (a / 8) : Nat) : Int))
        rw [tabArr_set (tabs (cs.take k)) (tabs (cs.take (k + 1))) (a / 8) (by omega) HST.out.2] at h2s
        obtain ⟨V, hV⟩ : ∃ V, V = Value.int .u64 ((tabs (cs.take (k + 1)) (a / 8) : Nat) : Int) := ⟨_, rfl⟩
        rw [← hV] at h2s ⊢
        have h1s := (H1.out.far (p := ⟨w.heap.size + 1 + 1, a / 8, none⟩) (by simp) V).drew
        have h3s := bd_drew (bd_keep H3.out (gby_setCell (gby_refl w1 _) (a / 8) V) (by omega) H2.out (by decide))
        have h4s := (H4.out.setCell (p := ⟨w.heap.size + 1 + 1, a / 8, none⟩) (by simp; omega) V).drew
        have e3' : ((w1.setCell ⟨w.heap.size + 1 + 1, a / 8, none⟩ V).drew).cell? ⟨wr.heap.size, 1, none⟩ = some (.string tx) := (World.cell?_setCell_other w1 _ _ V (by intro e; injection e with e; omega)).trans E3.out
        have h2d := h2s.drew
        generalize (w1.setCell ⟨w.heap.size + 1 + 1, a / 8, none⟩ V).drew = w2 at h1s h2d h3s h4s e3' ⊢
        have K1 := Lib.hid h1s
        have K2 := Lib.hid h2d
        have K3 := Lib.hid h3s
        have K4 := Lib.hid h4s
        clear h1s h2s h2d h3s h4s hval hV e2 e3 e4 e5 hbig E2 E3 E4 E5 H1 H2 H3 H4 HOR HKD HST
        go_wp2_with fail
        refine (bwrite_any _ _ _ tx _ K3.out (by rw [Lib.byteCells_length]; have := HTK.out k; omega) (Nat.le_of_lt (bd_lt K3.out))).mono ?_
        rintro e w3 ⟨rfl, hb3, hbl⟩
        go_wp2
        go_roundw
        case rel =>
          refine ⟨k + 1, by omega, by go_num, K1.out.below hbl (by omega), K2.out.below hbl (by omega), ?_, K4.out.trans (hbl.mono (by omega))⟩
          rw [HTS.out, byteCells_append, ← strCells_list]
          exact .inr hb3
        case measure => simp [intOf]; omega
      · skip
        have hn0 : (tx.toList == []) = false := by rw [empty_list, decide_eq_false_iff_not]; exact h0
        have hkd : kindN ((a : Int), tx) = 2 := by unfold kindN; rw [if_neg h0]
        have hor := or_two ov (a % 8) HBF.out (by omega)
        have HKD := Lib.hid hkd
        have HOR := Lib.hid hor
        clear h0 hkd hor
        go_wp2_with fail
        go_region
        have hval : ((ov + 2 * 4 ^ (a % 8) : Nat) : Int) = ((tabs (cs.take (k + 1)) (a / 8) : Nat) : Int) := by rw [HST.out.1, HKD.out]
        rw [HOR.out, hval]
        have h2s := H2.out.set_ (a / 8) (.int .u64 ((tabs (cs.take (k + 1)) (a / 8) : Nat) : Int))
        rw [tabArr_set (tabs (cs.take k)) (tabs (cs.take (k + 1))) (a / 8) (by omega) HST.out.2] at h2s
        obtain ⟨V, hV⟩ : ∃ V, V = Value.int .u64 ((tabs (cs.take (k + 1)) (a / 8) : Nat) : Int) := ⟨_, rfl⟩
        rw [← hV] at h2s ⊢
        have h1s := (H1.out.far (p := ⟨w.heap.size + 1 + 1, a / 8, none⟩) (by simp) V).drew
        have h3s := bd_drew (bd_keep H3.out (gby_setCell (gby_refl w1 _) (a / 8) V) (by omega) H2.out (by decide))
        have h4s := (H4.out.setCell (p := ⟨w.heap.size + 1 + 1, a / 8, none⟩) (by simp; omega) V).drew
        have e3' : ((w1.setCell ⟨w.heap.size + 1 + 1, a / 8, none⟩ V).drew).cell? ⟨wr.heap.size, 1, none⟩ = some (.string tx) := (World.cell?_setCell_other w1 _ _ V (by intro e; injection e with e; omega)).trans E3.out
        have h2d := h2s.drew
        generalize (w1.setCell ⟨w.heap.size + 1 + 1, a / 8, none⟩ V).drew = w2 at h1s h2d h3s h4s e3' ⊢
        have K1 := Lib.hid h1s
        have K2 := Lib.hid h2d
        have K3 := Lib.hid h3s
        have K4 := Lib.hid h4s
        clear h1s h2s h2d h3s h4s hval hV e2 e3 e4 e5 hbig E2 E3 E4 E5 H1 H2 H3 H4 HOR HKD HST
        go_wp2_with fail
        refine (bwrite_any _ _ _ tx _ K3.out (by rw [Lib.byteCells_length]; have := HTK.out k; omega) (Nat.le_of_lt (bd_lt K3.out))).mono ?_
        rintro e w3 ⟨rfl, hb3, hbl⟩
        go_wp2
        go_roundw
        case rel =>
          refine ⟨k + 1, by omega, by go_num, K1.out.below hbl (by omega), K2.out.below hbl (by omega), ?_, K4.out.trans (hbl.mono (by omega))⟩
          rw [HTS.out, byteCells_append, ← strCells_list]
          exact .inr hb3
        case measure => simp [intOf]; omega
    · obtain rfl : k = len := by omega
      have htk : cs.take k = cs := List.take_of_length_le (by rw [HLEN.out]; omega)
      rw [htk] at hT4 hbd
      have hszt : (tabArr (tabs cs)).size = 8 := by simp [tabArr]
      have hone : (tabArr (tabs cs)).all (·.oneCell') = true := by simp [tabArr, Value.oneCell']
      have hsz0 : (tabArr fun _ => 0).size = (tabArr (tabs cs)).size := by simp [tabArr]
      have HT2 := Lib.hid hT2
      have HT4 := Lib.hid hT4
      have HBD := Lib.hid hbd
      have HBEL := Lib.hid hbel
      have HSZT := Lib.hid hszt
      have HSZ0 := Lib.hid hsz0
      have HONE := Lib.hid hone
      obtain ⟨TA, hTA⟩ : ∃ TA, TA = tabArr (tabs cs) := ⟨_, rfl⟩
      have HTA := Lib.hid hTA
      rw [← hTA] at HT4 HSZT HSZ0 HONE
      clear hT2 hT4 hbd hbel hszt hsz0 hone htk hTA
      go_wp2_with fail
      obtain ⟨X, hX⟩ : ∃ X : World → Prop, X = fun w' => Below (w.heap.size + 1 + 1 + 1) wr w' ∧ Lib.IsBuilderF 81 5 (w.heap.size + 1 + 1 + 1) (w.heap.size + 1 + 1 + 1) (Lib.byteCells (texts cs)) w' := ⟨_, rfl⟩
      have hX0 : X { wr with drawn := wr.drawn + 1 } := by rw [hX]; exact ⟨(Below.refl _ wr).drew, Lib.IsBuilderF.of HBD.out⟩
      have hXr : ∀ v, X v → v.heap[w.heap.size + 1 + 1]? = some (.cells TA 61 (0, 0)) := by
        intro v hv
        rw [hX] at hv
        exact HT4.out.below hv.1 (by omega)
      have hXs : ∀ v, X v → Calls Try.prog 41 #[.pointer (some ⟨w.heap.size + 1 + 1 + 1, 0, none⟩)] v fun e w'' => e = .returned (.string ⟨(texts cs).toArray⟩) ∧ X w'' := by
        intro v hv
        rw [hX] at hv ⊢
        refine (bstring_f _ _ _ _ hv.2 (by have := hv.1.size; omega)).mono ?_
        rintro e w'' ⟨rfl, h1, h2⟩
        exact ⟨rfl, hv.1.trans h2, h1⟩
      have HXR := Lib.hid hXr
      have HXS := Lib.hid hXs
      have HX := Lib.hid hX
      have HX0 := Lib.hid hX0
      clear hX hX0 hXr hXs
      refine wp_region_quiet_tail (C := X) 2 (by kernel_rfl) (by kernel_rfl) HX0.out ?_
      simp only [List.take_succ_cons, List.take_zero, List.drop_succ_cons, List.drop_zero]
      refine quiet_load_row rfl 61 (.tmp 4) rfl (w.heap.size + 1 + 1) rfl 61 TA (0, 0) _ HXR.out Try.underlying61 rfl (by rw [tb_info, HSZT.out]) ?_
      simp [Act.put]
      go_big_quiet_step ((intro hw; go_at_call 41; with_reducible exact HXS.out _ hw))
      refine wpQuiet_nil ?_
      intro w2 hw2
      rw [HX.out] at hw2
      have hb2 := hw2.1
      have h2 := HT2.out.below hb2 (by omega)
      have H2 := Lib.hid h2
      have HB2 := Lib.hid hb2
      clear h2 hb2 hw2 HXR HXS HX HX0
      go_wp2_with (refine wpList_store_row rfl 61 _ _ rfl (w.heap.size + 1) TA rfl rfl 61 (tabArr fun _ => 0) H2.out (by rw [tb_info, HSZT.out]) HSZ0.out HONE.out ?_)
      refine bodyPost_ret (results_row_tmp rfl _ _ (w.heap.size + 1) 61 TA (0, 0) _ rfl (H2.out.setRow _) Try.underlying61 rfl (by rw [tb_info, HSZT.out])) rfl ⟨by have e := HTA.out; subst e; rfl, ?_⟩
      exact below_setRow' (HBEL.out.trans (HB2.out.mono (by omega))) (by omega) _
end Go.Proofs.Ytolpnbeepiblkaa
