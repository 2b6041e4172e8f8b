/- The contract of image.Put. Conditions: the slice's cells lie; lengths are those of slices. -/
import Derived.Test.YtolpnbeepiblkaaTables
namespace Go.Proofs.Ytolpnbeepiblkaa
open Go.RowKit
open Go.BigFrame
set_option linter.unusedVariables false
def putR (id parent clusters : Int) (cs : List C) : ByteArray × Int := if frB id parent clusters cs then (bs (sealed (bodyL id.toNat parent.toNat clusters.toNat cs)), 0) else (bs [], 1)
theorem frB_parts (id parent clusters : Int) (cs : List C) (h : frB id parent clusters cs = true) : rightB clusters cs = true ∧ 0 < id ∧ id ≤ 2147483647 ∧ 0 ≤ parent ∧ parent ≤ 2147483647 ∧ parent ≠ id := by
  unfold frB at h
  simp only [Bool.and_eq_true, decide_eq_true_eq] at h
  exact ⟨h.1.1.1.1.1, h.1.1.1.1.2, h.1.1.1.2, h.1.1.2, h.1.2, h.2⟩
theorem run_index8 (TA : Array Value) (k n : Nat) (hk : k < 8) (hg : TA[k]? = some (.int .u64 (n : Int))) (w : World) : (Instr.index 61 (.agg TA) (.int .i64 (k : Int))).run Try.prog w = .ok (.int .u64 (n : Int)) w := by
  have ht := Try.underlying61
  have ha := Try.isAgg59
  have hs := Try.sizeOf59
  have h8 : (0 : Int) ≤ (k : Int) ∧ (k : Int) < ((8 : Nat) : Int) := ⟨by omega, by omega⟩
  simp [Instr.index, asIntOf, run_underlying ht, hs, part, ha, h8, hg]
  intro h; omega
theorem or_two_pow (x k : Nat) (hx : x < 2 ^ k) (hk : k < 8) : bits .or .u64 (x : Int) (IntKind.u64.wrap (2 ^ k)) = ((x + 2 ^ k : Nat) : Int) := by
  have hp : 2 ^ k ≤ 2 ^ 7 := Nat.pow_le_pow_right (by decide) (by omega)
  have h7 : (2 : Nat) ^ 7 = 128 := rfl
  have e : (2 : Int) ^ k = ((2 ^ k : Nat) : Int) := by rw [Int.natCast_pow]; rfl
  rw [e, IntKind.wrap_u64, show ((2 ^ k : Nat) : Int) % 18446744073709551616 = ((2 ^ k : Nat) : Int) by omega, u64_or_nat _ _ (by omega) (by omega)]
  have := LeP.or_shift x 1 k hx
  rw [Nat.one_mul, Nat.mul_one] at this
  rw [this]
theorem put_bs (n : Nat) (many : Int) (hn : n < 18446744073709551616) (w : World) :
    Calls Try.prog 24 #[.int .u64 (n : Int), .int .i64 many] w fun e w' => e = .returned (.string (bs (LeP.bytes (clamp8 many) n))) ∧ Below w.heap.size w w' := put_any n many hn w
set_option maxRecDepth 100000 in
set_option maxHeartbeats 1600000 in
theorem iput_any (A : Option Addr) (len cap : Nat) (id parent clusters : Int) (cs : List C) (w : World) (hl : len ≤ maxLen) (hr : CRow w A len cs) :
    Calls Try.prog 10 #[.agg #[.int .i64 id, .int .i64 parent, .int .i64 clusters, .slice A len cap]] w fun e w' => e = .returned (.tuple #[.string (putR id parent clusters cs).1, .int .i64 (putR id parent clusters cs).2]) ∧ Below w.heap.size w w' := by
  obtain ⟨o, ho⟩ : ∃ o : Obj, o = .cells #[.int .i64 id, .int .i64 parent, .int .i64 clusters, .slice A len cap] 26 := ⟨_, rfl⟩
  have h0 : Below w.heap.size w (w.alloc o) := (Below.refl _ _).alloc (Nat.le_refl _) _
  have hb := Blk.new w 26 #[.int .i64 id, .int .i64 parent, .int .i64 clusters, .slice A len cap]
  rw [← ho] at hb
  have hc := iright_any A len cap id parent clusters cs (w.alloc o) hl (hr.below h0)
  have HC := Lib.hid hc
  have HB := Lib.hid hb
  have H0 := Lib.hid h0
  rw [ho] at HC HB H0
  have HR := Lib.hid hr
  have HL := Lib.hid hl
  clear hc hb h0 ho hr hl
  cases hf : frB id parent clusters cs with
  | false =>
    have hp : putR id parent clusters cs = (bs [], 1) := by unfold putR; rw [hf, if_neg (by decide)]
    rw [hp]
    rw [hf] at HC
    clear hp hf
    go_enter Try.func10, Try.ntmps10
    go_wp2_with fail
    refine HC.out.mono ?_
    rintro e w1 ⟨rfl, hb1⟩
    go_wp2
    go_ret2
    exact ⟨rfl, H0.out.trans (hb1.mono H0.out.size)⟩
  | true =>
    obtain ⟨hrb, hi1, hi2, hp1, hp2, hne⟩ := frB_parts _ _ _ _ hf
    have hp : putR id parent clusters cs = (bs (sealed (bodyL id.toNat parent.toNat clusters.toNat cs)), 0) := by unfold putR; rw [hf, if_pos rfl]
    rw [hp]
    rw [hf] at HC
    obtain ⟨hgood, hc1, hc64⟩ := rightB_parts _ _ hrb
    obtain ⟨I, rfl⟩ : ∃ I : Nat, id = (I : Int) := ⟨id.toNat, by omega⟩
    obtain ⟨Q, rfl⟩ : ∃ I : Nat, parent = (I : Int) := ⟨parent.toNat, by omega⟩
    obtain ⟨M, rfl⟩ : ∃ I : Nat, clusters = (I : Int) := ⟨clusters.toNat, by omega⟩
    simp only [Int.toNat_natCast]
    have HRB := Lib.hid hrb
    have HG := Lib.hid hgood
    have htab := fun (w : World) hr => tables_any A len cap (M : Int) cs w HL.out hr HRB.out
    have HT := Lib.hid htab
    have hsm : ∀ g, tabs cs g < 65536 := tabs_small hgood hc64
    have HSM := Lib.hid hsm
    have htl : (texts cs).length ≤ 1024 := by
      have h1 := texts_le cs (-1) hgood
      have h2 := hgood.length (by omega)
      omega
    clear hp hf hrb hgood htab hsm hne
    obtain ⟨t, ht⟩ : ∃ t, t = tabs cs := ⟨_, rfl⟩
    rw [← ht] at HT HSM
    obtain ⟨X, hX⟩ : ∃ X : ByteArray, X = ⟨(texts cs).toArray⟩ := ⟨_, rfl⟩
    rw [← hX] at HT
    have hXs : X.size ≤ 1024 := by rw [hX]; show (texts cs).toArray.size ≤ 1024; rw [List.size_toArray]; exact htl
    have HX := Lib.hid hX
    have HTT := Lib.hid ht
    have hone : (tabArr t).all (·.oneCell') = true := by simp [tabArr, Value.oneCell']
    have hszt : (tabArr t).size = 8 := by simp [tabArr]
    have hsz0 : (tabArr fun _ => 0).size = (tabArr t).size := by simp [tabArr]
    have hget : ∀ g, g < 8 → (tabArr t)[g]? = some (.int .u64 ((t g : Nat) : Int)) := fun g hg => tabArr_get t g hg
    obtain ⟨TA, hTA⟩ : ∃ TA, TA = tabArr t := ⟨_, rfl⟩
    rw [← hTA] at HT hone hszt hsz0 hget
    have HONE := Lib.hid hone
    have HSZT := Lib.hid hszt
    have HSZ0 := Lib.hid hsz0
    have HGET := Lib.hid hget
    clear hone hszt hsz0 hget hTA ht hX htl
    go_enter Try.func10, Try.ntmps10
    go_wp2_with fail
    refine HC.out.mono ?_
    rintro e w1 ⟨rfl, hb1⟩
    have hb := HB.out.below hb1 HB.out.lt
    have hbel := H0.out.trans (hb1.mono H0.out.size)
    have c2 := hb.cell 2
    have c3 := hb.cell 3
    rw [show (#[Value.int IntKind.i64 (I : Int), .int .i64 (Q : Int), .int .i64 (M : Int), .slice A len cap] : Array Value)[2]? = some (.int .i64 (M : Int)) from rfl] at c2
    rw [show (#[Value.int IntKind.i64 (I : Int), .int .i64 (Q : Int), .int .i64 (M : Int), .slice A len cap] : Array Value)[3]? = some (.slice A len cap) from rfl] at c3
    have HB1 := Lib.hid hb
    have HL1 := Lib.hid hbel
    clear hb hb1 hbel HB H0 HC
    go_wp2_with fail
    refine (HT.out _ (HR.out.below HL1.out)).mono ?_
    rintro e w2 ⟨rfl, hb2⟩
    have hb := HB1.out.below hb2 HB1.out.lt
    have hbel := HL1.out.trans (hb2.mono HL1.out.size)
    have HB2 := Lib.hid hb
    have HL2 := Lib.hid hbel
    clear hb hb2 hbel HB1 HL1 c2 c3
    go_wp2_with (first
      | (refine wpList_store_row rfl 61 _ _ rfl w2.heap.size TA rfl rfl 61 (tabArr fun _ => 0) (heap_alloc_new w2 _) (by rw [tb_info, HSZT.out]) HSZ0.out HONE.out ?_)
      | (refine wpList_load_row rfl 61 (.tmp 4) rfl w2.heap.size rfl 61 TA (0, 0) _ ((Blk.new w2 61 _).setRow TA) Try.underlying61 rfl (by rw [tb_info, HSZT.out]) ?_))
    have hB3 := (HB2.out.alloc (.cells (tabArr fun _ => 0) 61)).grown (w' := ((w2.alloc (.cells (tabArr fun _ => 0) 61)).setRow w2.heap.size TA)) (row := some w2.heap.size) ⟨rfl, rfl, rfl, by simp, fun k _ hk => setRow_other _ _ _ _ (by intro e; exact hk (by rw [e]))⟩ (by have := HB2.out.lt; intro e; injection e with e; omega)
    have hL3 := below_setRow' (g := w2.heap.size) (HL2.out.alloc HL2.out.size (.cells (tabArr fun _ => 0) 61)) HL2.out.size TA
    rw [tab0] at hB3 hL3
    generalize ((w2.alloc (.cells z8 61)).setRow w2.heap.size TA) = w3 at hB3 hL3 ⊢
    have HB3 := Lib.hid hB3
    have HL3 := Lib.hid hL3
    clear hB3 hL3 HB2 HL2
    go_loopw [6, 7, 20] (fun wh row i wr => ∃ k : Nat, k ≤ 8 ∧ i = .int .i64 k ∧ wh = .int .u64 ((whichTo t k : Nat) : Int) ∧ row = .string (bs (rowTo t k)) ∧ Blk wr w.heap.size 26 #[.int .i64 (I : Int), .int .i64 (Q : Int), .int .i64 (M : Int), .slice A len cap] ∧ Below w.heap.size w wr) (fun _ _ i _ => 8 - (intOf i).toNat)
    case atStart => exact ⟨0, by omega, rfl, rfl, rfl, HB3.out, HL3.out⟩
    case round =>
      obtain ⟨k, hk, rfl, rfl, rfl, hb, hbel⟩ := hrel
      have HB := Lib.hid hb
      have HBEL := Lib.hid hbel
      clear hb hbel
      by_cases hlt : k < 8
      · have hidx := fun w => run_index8 TA k (t k) hlt (HGET.out k hlt) w
        obtain ⟨n, hn⟩ : ∃ n, n = t k := ⟨_, rfl⟩
        have hn6 : n < 65536 := by rw [hn]; exact HSM.out k
        rw [← hn] at hidx
        by_cases hz : 0 < n
        · have hor := or_two_pow (whichTo t k) k (whichTo_lt t k) hlt
          have hw1 : whichTo t (k + 1) = whichTo t k + 2 ^ k := by rw [whichTo, ← hn, if_pos hz]
          have hr1 : bs (rowTo t k) ++ bs (LeP.bytes (clamp8 2) n) = bs (rowTo t (k + 1)) := by rw [append_bs, rowTo, ← hn, if_pos hz]; rfl
          have hput := fun (w : World) => put_bs n 2 (by omega) w
          obtain ⟨b2, hb2⟩ : ∃ b2, b2 = bs (LeP.bytes (clamp8 2) n) := ⟨_, rfl⟩
          obtain ⟨rw_, hrw⟩ : ∃ rw_, rw_ = bs (rowTo t k) := ⟨_, rfl⟩
          have hsum : rw_.size + b2.size ≤ 9223372036854775807 := by
            rw [hrw, hb2, bs_size, bs_size, LeP.bytes_length]
            have := rowTo_le t k
            have : clamp8 2 = 2 := rfl
            omega
          rw [← hb2, ← hrw] at hr1
          rw [← hb2] at hput
          rw [← hrw]
          have HW := Lib.hid hw1
          have HR1 := Lib.hid hr1
          have HP := Lib.hid hput
          have HO := Lib.hid hor
          clear hw1 hr1 hput hor hb2 hrw hn
          go_wp2_with fail
          refine (HP.out _).mono ?_
          rintro e w4 ⟨rfl, hb4⟩
          go_wp2
          go_roundw
          case rel => exact ⟨k + 1, by omega, by go_num, by rw [HO.out, HW.out], by rw [HR1.out], HB.out.below hb4 HB.out.lt, HBEL.out.trans (hb4.mono HBEL.out.size)⟩
          case measure => simp [intOf]; omega
        · have hw1 : whichTo t (k + 1) = whichTo t k := by rw [whichTo, ← hn, if_neg hz]; rfl
          have hr1 : rowTo t (k + 1) = rowTo t k := by rw [rowTo, ← hn, if_neg hz, List.append_nil]
          have HW := Lib.hid hw1
          have HR1 := Lib.hid hr1
          clear hw1 hr1 hn
          go_wp2
          go_roundw
          case rel => exact ⟨k + 1, by omega, by go_num, by rw [HW.out], by rw [HR1.out], HB.out, HBEL.out⟩
          case measure => simp [intOf]; omega
      · obtain rfl : k = 8 := by omega
        obtain ⟨wc, hwc⟩ : ∃ n, n = whichTo t 8 := ⟨_, rfl⟩
        have hwl : wc < 256 := by rw [hwc]; exact whichTo_lt t 8
        obtain ⟨R, hRW⟩ : ∃ R, R = bs (rowTo t 8) := ⟨_, rfl⟩
        have hRs : R.size ≤ 16 := by rw [hRW, bs_size]; exact rowTo_le t 8
        rw [← hwc, ← hRW]
        have p1 := fun (p : Behind wr) => behind_of (put_bs I 4 (by omega) p.v)
        have p2 := fun (p : Behind wr) => behind_of (put_bs Q 4 (by omega) p.v)
        have p3 := fun (p : Behind wr) => behind_of (put_bs M 1 (by omega) p.v)
        have p4 := fun (p : Behind wr) => behind_of (put_bs wc 1 (by omega) p.v)
        have hbig : (bs magicL ++ bs (LeP.bytes (clamp8 4) I) ++ bs (LeP.bytes (clamp8 4) Q) ++ bs (LeP.bytes (clamp8 1) M) ++ bs (LeP.bytes (clamp8 1) wc) ++ R ++ X).data.toList = bodyL I Q M cs := by
          rw [hwc, hRW, HX.out, show (⟨(texts cs).toArray⟩ : ByteArray) = bs (texts cs) from rfl, append_bs, append_bs, append_bs, append_bs, append_bs, append_bs, bs_list, HTT.out]
          rfl
        obtain ⟨s1, h1⟩ : ∃ s, s = bs (LeP.bytes (clamp8 4) I) := ⟨_, rfl⟩
        obtain ⟨s2, h2⟩ : ∃ s, s = bs (LeP.bytes (clamp8 4) Q) := ⟨_, rfl⟩
        obtain ⟨s3, h3⟩ : ∃ s, s = bs (LeP.bytes (clamp8 1) M) := ⟨_, rfl⟩
        obtain ⟨s4, h4⟩ : ∃ s, s = bs (LeP.bytes (clamp8 1) wc) := ⟨_, rfl⟩
        rw [← h1, ← h2, ← h3, ← h4] at hbig
        rw [← h1] at p1
        rw [← h2] at p2
        rw [← h3] at p3
        rw [← h4] at p4
        have z1 : s1.size ≤ 4 := by rw [h1, bs_size, LeP.bytes_length]; decide
        have z2 : s2.size ≤ 4 := by rw [h2, bs_size, LeP.bytes_length]; decide
        have z3 : s3.size ≤ 1 := by rw [h3, bs_size, LeP.bytes_length]; decide
        have z4 : s4.size ≤ 1 := by rw [h4, bs_size, LeP.bytes_length]; decide
        have hbs : (bs magicL ++ s1 ++ s2 ++ s3 ++ s4 ++ R ++ X).size + 4 ≤ maxLen := by
          simp only [ByteArray.size_append]
          have : (bs magicL).size = 4 := rfl
          unfold maxLen
          omega
        have p5 := fun (p : Behind wr) => behind_of (sput_any _ hbs p.v)
        rw [hbig] at p5
        have b0 := HB.out.cell 0
        have b1 := HB.out.cell 1
        have b2 := HB.out.cell 2
        rw [show (#[Value.int IntKind.i64 (I : Int), .int .i64 (Q : Int), .int .i64 (M : Int), .slice A len cap] : Array Value)[0]? = some (.int .i64 (I : Int)) from rfl] at b0
        rw [show (#[Value.int IntKind.i64 (I : Int), .int .i64 (Q : Int), .int .i64 (M : Int), .slice A len cap] : Array Value)[1]? = some (.int .i64 (Q : Int)) from rfl] at b1
        rw [show (#[Value.int IntKind.i64 (I : Int), .int .i64 (Q : Int), .int .i64 (M : Int), .slice A len cap] : Array Value)[2]? = some (.int .i64 (M : Int)) from rfl] at b2
        have f0 := fun p => Behind.cell (w := wr) p b0
        have f1 := fun p => Behind.cell (w := wr) p b1
        have f2 := fun p => Behind.cell (w := wr) p b2
        have P1 := Lib.hid p1
        have P2 := Lib.hid p2
        have P3 := Lib.hid p3
        have P4 := Lib.hid p4
        have P5 := Lib.hid p5
        clear p1 p2 p3 p4 p5 b0 b1 b2 hbs hbig h1 h2 h3 h4 hwc hRW
        go_wp2_with fail
        refine wp_region_behind (by kernel_rfl) (by kernel_rfl) ?_
        repeat (go_big_quiet_step (first
          | (go_at_call 24; with_reducible exact P1.out _)
          | (go_at_call 24; with_reducible exact P2.out _)
          | (go_at_call 24; with_reducible exact P3.out _)
          | (go_at_call 24; with_reducible exact P4.out _)
          | (go_at_call 25; exact P5.out _)))
        refine wpQuiet_nil ?_
        intro w4 hb4
        go_wp2
        go_ret2
        exact ⟨rfl, HBEL.out.trans (hb4.mono HBEL.out.size)⟩
end Go.Proofs.Ytolpnbeepiblkaa
