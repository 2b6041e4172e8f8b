/- The contract of image.Take, whole. Condition: the text is no longer than texts can be. -/
import Derived.Test.YtolpnbeepiblkaaHRd
import Derived.Test.YtolpnbeepiblkaaImageRight
import Derived.Test.YtolpnbeepiblkaaTables
import Derived.Test.YtolpnbeepiblkaaTakeP2
namespace Go.Proofs.Ytolpnbeepiblkaa
open Go.RowKit
theorem bit64 (q k : Nat) (h : q < 18446744073709551616) : bits .and .u64 ((q : Int) / 2 ^ k) 1 = ((q / 2 ^ k % 2 : Nat) : Int) := by
  have e : (q : Int) / 2 ^ k = ((q / 2 ^ k : Nat) : Int) := by rw [Int.natCast_ediv, Int.natCast_pow]; rfl
  have := u64_and_nat (q / 2 ^ k) 1 (Nat.lt_of_le_of_lt (Nat.div_le_self _ _) h) (by omega)
  rw [Nat.and_one_is_mod] at this
  rw [e]; exact this
theorem two64 (q k : Nat) (h : q < 18446744073709551616) : bits .and .u64 ((q : Int) / 2 ^ (2 * k)) 3 = ((q / 4 ^ k % 4 : Nat) : Int) := by
  have e : (q : Int) / 2 ^ (2 * k) = ((q / 4 ^ k : Nat) : Int) := by
    rw [← four_pow, Int.natCast_ediv]
  have := u64_and_nat (q / 4 ^ k) 3 (Nat.lt_of_le_of_lt (Nat.div_le_self _ _) h) (by omega)
  rw [show (3 : Nat) = 2 ^ 2 - 1 from rfl, Nat.and_two_pow_sub_one_eq_mod] at this
  rw [e]; exact this
theorem tk_length (l : List UInt8) : (tk l).1.length ≤ l.length := by
  unfold tk
  split
  · exact Nat.zero_le _
  · split
    · exact List.length_take_le' _ _
    · exact Nat.zero_le _
theorem tab1s_left (wh : Nat) (s : S1) (k : Nat) : (tab1s wh s k).left.length ≤ s.left.length := by
  induction k with
  | zero => exact Nat.le_refl _
  | succ k ih =>
    rw [tab1s]
    unfold tab1
    split
    · exact Nat.le_trans (rN_left _ _ _) ih
    · exact ih
theorem cell2s_left (T : Nat → Nat) (s : S2) (k : Nat) : (cell2s T s k).left.length ≤ s.left.length := by
  induction k with
  | zero => exact Nat.le_refl _
  | succ k ih =>
    rw [cell2s]
    unfold cell2
    repeat' split
    · exact ih
    · exact ih
    · exact Nat.le_trans (rT_le _ _ _).2.1 ih
    · exact ih
theorem tab1s_T (wh : Nat) (s : S1) (h : ∀ g, s.T g < 65536) (k : Nat) : ∀ g, (tab1s wh s k).T g < 65536 := by
  induction k with
  | zero => exact h
  | succ k ih =>
    intro g
    rw [tab1s]
    unfold tab1
    split
    · show (if g = k then _ else _) < 65536
      split
      · exact rN_lt _ _ 2
      · exact ih g
    · exact ih g
theorem cell2s_len (T : Nat → Nat) (s : S2) (k : Nat) : (cell2s T s k).cs.length ≤ s.cs.length + k := by
  induction k with
  | zero => exact Nat.le_refl _
  | succ k ih =>
    rw [cell2s]
    unfold cell2
    repeat' split
    · omega
    · simp only [List.length_append, List.length_singleton]; omega
    · simp only [List.length_append, List.length_singleton]; omega
    · show (cell2s T s k).cs.length ≤ _
      omega
theorem cell2s_small (T : Nat → Nat) (s : S2) (h : s.cs = []) (k : Nat) : ∀ c ∈ (cell2s T s k).cs, c.2.size ≤ 16 := by
  induction k with
  | zero => intro c hc; rw [cell2s, h] at hc; cases hc
  | succ k ih =>
    rw [cell2s]
    unfold cell2
    repeat' split
    · exact ih
    · intro c hc
      rcases List.mem_append.1 hc with hc | hc
      · exact ih c hc
      · rw [List.mem_singleton.1 hc]; exact Nat.zero_le _
    · intro c hc
      rcases List.mem_append.1 hc with hc | hc
      · exact ih c hc
      · rw [List.mem_singleton.1 hc]
        show (bs _).size ≤ 16
        rw [bs_size]
        exact (rT_le _ _ 16).1
    · exact ih
end Go.Proofs.Ytolpnbeepiblkaa
namespace Go.Proofs.Ytolpnbeepiblkaa.Pr
open Go.RowKit Go.Proofs.YtolpnbeepiblkaaW.PrintWords Go.Proofs.YtolpnbeepiblkaaW.PrintLast Go.Proofs.Ytolpnbeepiblkaa
set_option linter.unusedVariables false
theorem own_succ {w : World} {base n : Nat} {e : TypeId} {size : Nat} {v : Value} {xs : List Value} (h : w.ownsRow base e size v (n + 1) xs) : ∃ g cap, v = .slice (some ⟨g, 0, none⟩) (n + 1) cap ∧ base ≤ g := by
  rcases h.2 with ⟨_, h0⟩ | ⟨g, cap, _, rfl, hb, _⟩
  · omega
  · exact ⟨g, cap, rfl, hb⟩
theorem own_set {w : World} {base n : Nat} {e : TypeId} {size : Nat} {v : Value} {xs : List Value} (h : w.ownsRow base e size v n xs) {p : Addr} (hp : p.block < base) (u : Value) : (w.setCell p u).ownsRow base e size v n xs :=
  own_setCell h (fun e => by have := own_base h _ e.symm; omega) u
theorem own_gby {w w' : World} {base n g : Nat} {e : TypeId} {size : Nat} {v : Value} {xs : List Value} (h : w.ownsRow base e size v n xs) (hg : w.grownBy w' (some g)) (hp : g < base) : w'.ownsRow base e size v n xs := by
  refine own_move h fun k hk => hg.block k (own_lt h k hk) (fun e => ?_)
  have := own_base h k hk
  injection e with e
  omega
theorem fl_info : (Try.prog.info? 26).map (·.size) = some 4 := by kernel_rfl
set_option maxRecDepth 100000 in
set_option maxHeartbeats 4000000 in
theorem itake_ok (s : ByteArray) (hs : s.size ≤ maxLen) (w : World) (l : List UInt8) (hok : tk s.data.toList = (l, 0)) (hll : l.length ≤ maxLen) (H : Hd) (hH : hdr l = H) :
    Calls Try.prog 20 #[.string s] w fun e w' => ∃ v4_ : Value, e = .returned (.tuple #[.agg #[.int .i64 (takeI s.data.toList).1.1, .int .i64 (takeI s.data.toList).1.2.1, .int .i64 (takeI s.data.toList).1.2.2.1, v4_], .int .i64 (takeI s.data.toList).2]) ∧ ownC w' w.heap.size v4_ ((takeI s.data.toList).1.2.2.2.map mkC) ∧ Below w.heap.size w w' := by
  obtain ⟨⟨nm, l1, b1⟩, e1⟩ : ∃ x, rT l false 4 = x := ⟨_, rfl⟩
  obtain ⟨⟨i, l2, b2⟩, e2⟩ : ∃ x, rN l1 b1 4 = x := ⟨_, rfl⟩
  obtain ⟨⟨p, l3, b3⟩, e3⟩ : ∃ x, rN l2 b2 4 = x := ⟨_, rfl⟩
  obtain ⟨⟨c, l4, b4⟩, e4⟩ : ∃ x, rN l3 b3 1 = x := ⟨_, rfl⟩
  obtain ⟨⟨wh, l5, b5⟩, e5⟩ : ∃ x, rN l4 b4 1 = x := ⟨_, rfl⟩
  rw [hdr_of e1 e2 e3 e4 e5] at hH
  have z1 : l1.length ≤ maxLen := by have := (rT_le l false 4).2.1; rw [e1] at this; exact Nat.le_trans this hll
  have z2 : l2.length ≤ maxLen := by have := rN_left l1 b1 4; rw [e2] at this; exact Nat.le_trans this z1
  have z3 : l3.length ≤ maxLen := by have := rN_left l2 b2 4; rw [e3] at this; exact Nat.le_trans this z2
  have z4 : l4.length ≤ maxLen := by have := rN_left l3 b3 1; rw [e4] at this; exact Nat.le_trans this z3
  have z5 : l5.length ≤ maxLen := by have := rN_left l4 b4 1; rw [e5] at this; exact Nat.le_trans this z4
  have y2 : i < 4294967296 := by have := rN_lt l1 b1 4; rw [e2] at this; exact this
  have y3 : p < 4294967296 := by have := rN_lt l2 b2 4; rw [e3] at this; exact this
  have y4 : c < 256 := by have := rN_lt l3 b3 1; rw [e4] at this; exact this
  have y5 : wh < 256 := by have := rN_lt l4 b4 1; rw [e5] at this; exact this
  have t1 := fun g w h => text_l g l false 4 hll w h
  have t2 := fun g w h => number_l g l1 b1 4 (by decide) z1 w h
  have t3 := fun g w h => number_l g l2 b2 4 (by decide) z2 w h
  have t4 := fun g w h => number_l g l3 b3 1 (by decide) z3 w h
  have t5 := fun g w h => number_l g l4 b4 1 (by decide) z4 w h
  rw [e1] at t1
  rw [e2] at t2
  rw [e3] at t3
  rw [e4] at t4
  rw [e5] at t5
  dsimp only at t1 t2 t3 t4 t5
  simp only [show ((4 : Nat) : Int) = 4 from rfl] at t1 t2 t3
  simp only [show ((1 : Nat) : Int) = 1 from rfl] at t4 t5
  have htake : takeI s.data.toList = if okI H (all2 (all1 H)) = true then (((H.id : Int), (H.pa : Int), (H.cl : Int), (all2 (all1 H)).cs), 0) else ((0, 0, 0, []), 2) := by
    unfold takeI
    rw [hok, if_neg (show ¬ ((0 : Int) ≠ 0) by decide), hdr_of e1 e2 e3 e4 e5, hH]
  have hst := fun w => stake_any s hs w
  rw [hok] at hst
  have HT1 := Lib.hid t1
  have HT2 := Lib.hid t2
  have HT3 := Lib.hid t3
  have HT4 := Lib.hid t4
  have HT5 := Lib.hid t5
  have HTK := Lib.hid htake
  have HST := Lib.hid hst
  have HHH := Lib.hid hH
  clear t1 t2 t3 t4 t5 htake hst hH e1 e2 e3 e4 e5 z1 z2 z3 z4 hok
  go_enter Try.func20, Try.ntmps20
  go_wp2_with fail
  refine (HST.out _).mono ?_
  rintro e w1 ⟨rfl, hb1_⟩
  have HZ := Lib.hid (show Blk w1 w.heap.size 26 #[.int .i64 0, .int .i64 0, .int .i64 0, .slice none 0 0] from (Blk.new w _ _).below hb1_ (by simp))
  have HBL := Lib.hid (show Below w.heap.size w w1 from ((Below.refl _ _).alloc (Nat.le_refl _) _).trans (hb1_.mono (by simp)))
  have hl1 : w.heap.size < w1.heap.size := HZ.out.lt
  clear hb1_
  go_wp2_with fail
  have HR0 := Lib.hid (show Rdr (w1.alloc (.cells #[.string (bs l), .bool false] 73)) w1.heap.size l false from Blk.new w1 _ _)
  have HZ0 := Lib.hid (HZ.out.alloc (.cells #[.string (bs l), .bool false] 73))
  have HB0 := Lib.hid (HBL.out.alloc HBL.out.size (.cells #[.string (bs l), .bool false] 73))
  clear HZ HBL
  revert HR0 HZ0 HB0
  generalize (w1.alloc (.cells #[.string (bs l), .bool false] 73)) = v0
  obtain ⟨G, hG⟩ : ∃ G, G = w1.heap.size := ⟨_, rfl⟩
  rw [← hG] at hl1 ⊢
  clear hG
  intro HR0 HZ0 HB0
  refine (HT1.out G v0 HR0.out).mono ?_
  rintro e v1 ⟨rfl, hr, hg⟩
  have HR1 := Lib.hid hr
  have HZ1 := Lib.hid (HZ0.out.grown hg (by intro e; injection e with e; omega))
  have HB1 := Lib.hid (below_gby HB0.out hg HB0.out.size (by omega))
  clear hr hg HR0 HZ0 HB0 HT1
  go_wp2_with fail
  refine (HT2.out G v1 HR1.out).mono ?_
  rintro e v2 ⟨rfl, hr, hg⟩
  have HR2 := Lib.hid hr
  have HZ2 := Lib.hid (HZ1.out.grown hg (by intro e; injection e with e; omega))
  have HB2 := Lib.hid (below_gby HB1.out hg HB1.out.size (by omega))
  clear hr hg HR1 HZ1 HB1 HT2
  go_wp2_with fail
  refine (HT3.out G v2 HR2.out).mono ?_
  rintro e v3 ⟨rfl, hr, hg⟩
  have HR3 := Lib.hid hr
  have HZ3 := Lib.hid (HZ2.out.grown hg (by intro e; injection e with e; omega))
  have HB3 := Lib.hid (below_gby HB2.out hg HB2.out.size (by omega))
  have hgl := HR3.out.lt
  clear hr hg HR2 HZ2 HB2 HT3
  go_wp2_with fail
  have HR4 := Lib.hid (HR3.out.alloc (.cells #[.int .i64 (i : Int), .int .i64 (p : Int), .int .i64 0, .slice none 0 0] 26))
  have HZ4 := Lib.hid (HZ3.out.alloc (.cells #[.int .i64 (i : Int), .int .i64 (p : Int), .int .i64 0, .slice none 0 0] 26))
  have HB4 := Lib.hid (HB3.out.alloc HB3.out.size (.cells #[.int .i64 (i : Int), .int .i64 (p : Int), .int .i64 0, .slice none 0 0] 26))
  have HF4 := Lib.hid (Blk.new v3 26 #[.int .i64 (i : Int), .int .i64 (p : Int), .int .i64 0, .slice none 0 0])
  clear HR3 HZ3 HB3
  revert HR4 HZ4 HB4 HF4
  generalize (v3.alloc (.cells #[.int .i64 (i : Int), .int .i64 (p : Int), .int .i64 0, .slice none 0 0] 26)) = v4
  obtain ⟨J, hJ⟩ : ∃ J, J = v3.heap.size := ⟨_, rfl⟩
  rw [← hJ] at hgl ⊢
  clear hJ
  intro HR4 HZ4 HB4 HF4
  refine (HT4.out G v4 HR4.out).mono ?_
  rintro e v5 ⟨rfl, hr, hg⟩
  have HR5 := Lib.hid hr
  have HZ5 := Lib.hid (HZ4.out.grown hg (by intro e; injection e with e; omega))
  have HF5 := Lib.hid (HF4.out.grown hg (by intro e; injection e with e; omega))
  have HB5 := Lib.hid (below_gby HB4.out hg HB4.out.size (by omega))
  clear hr hg HR4 HZ4 HB4 HF4 HT4
  have j2 := HF5.out.cell 2
  have g2 := HF5.out.frozen 2
  rw [show (#[Value.int IntKind.i64 (i : Int), .int .i64 (p : Int), .int .i64 0, .slice none 0 0] : Array Value)[2]? = some (.int .i64 0) from rfl] at j2
  have HR6 := Lib.hid (HR5.out.far (p := ⟨J, 2, none⟩) (by simp; omega) (.int .i64 (c : Int)))
  have HZ6 := Lib.hid (HZ5.out.far (p := ⟨J, 2, none⟩) (by simp; omega) (.int .i64 (c : Int)))
  have HF6 := Lib.hid (HF5.out.set_ 2 (.int .i64 (c : Int)))
  have HB6 := Lib.hid (HB5.out.setCell (p := ⟨J, 2, none⟩) (by simp; omega) (.int .i64 (c : Int)))
  go_wp2_with fail
  clear HR5 HZ5 HB5 HF5 j2 g2
  revert HR6 HZ6 HB6 HF6
  generalize (v5.setCell ⟨J, 2, none⟩ (.int .i64 (c : Int))) = v6
  intro HR6 HZ6 HF6 HB6
  refine (HT5.out G v6 HR6.out).mono ?_
  rintro e v7 ⟨rfl, hr, hg⟩
  have HR7 := Lib.hid hr
  have HZ7 := Lib.hid (HZ6.out.grown hg (by intro e; injection e with e; omega))
  have HF7 := Lib.hid (show Blk v7 J 26 #[.int .i64 (i : Int), .int .i64 (p : Int), .int .i64 (c : Int), .slice none 0 0] from HF6.out.grown hg (by intro e; injection e with e; omega))
  have HB7 := Lib.hid (below_gby HB6.out hg HB6.out.size (by omega))
  clear hr hg HR6 HZ6 HB6 HF6 HT5
  have hjl := HF7.out.lt
  go_wp2_with fail
  have HR8 := Lib.hid (HR7.out.alloc (.cells z8 61))
  have HZ8 := Lib.hid (HZ7.out.alloc (.cells z8 61))
  have HF8 := Lib.hid (HF7.out.alloc (.cells z8 61))
  have HB8 := Lib.hid (HB7.out.alloc HB7.out.size (.cells z8 61))
  have HT8 := Lib.hid (Blk.new v7 61 z8)
  have HT9 : Hid (Blk (v7.alloc (.cells z8 61)) v7.heap.size 61 (tabArr fun _ => 0)) := Lib.hid (by rw [tab0]; exact HT8.out)
  clear HR7 HZ7 HF7 HB7 HT8
  revert HR8 HZ8 HF8 HB8 HT9
  generalize (v7.alloc (.cells z8 61)) = v8
  obtain ⟨K, hK⟩ : ∃ K, K = v7.heap.size := ⟨_, rfl⟩
  rw [← hK] at hjl ⊢
  clear hK
  intro HR8 HZ8 HF8 HB8 HT9
  obtain ⟨s0, hs0⟩ : ∃ s0 : S1, s0 = ⟨l5, b5, false, fun _ => 0⟩ := ⟨_, rfl⟩
  have hT0 : ∀ g, s0.T g < 65536 := by rw [hs0]; intro g; exact (by decide : (0 : Nat) < 65536)
  have hleft := fun k => Nat.le_trans (tab1s_left wh s0 k) (show s0.left.length ≤ maxLen by rw [hs0]; exact z5)
  have hTs := fun k => tab1s_T wh s0 hT0 k
  have HLE := Lib.hid hleft
  have HTS := Lib.hid hTs
  have HS0 := Lib.hid hs0
  have hstart : l5 = s0.left ∧ b5 = s0.bad ∧ s0.empty = false ∧ s0.T = fun _ => 0 := by rw [hs0]; exact ⟨rfl, rfl, rfl, rfl⟩
  have HSTART := Lib.hid hstart
  clear hs0 hT0 hleft hTs hstart
  go_loopw [11, 43] (fun ve vg wr => ∃ k : Nat, k ≤ 8 ∧ vg = .int .i64 k ∧ ve = .bool (tab1s wh s0 k).empty ∧ Hid (Rdr wr G (tab1s wh s0 k).left (tab1s wh s0 k).bad) ∧ Hid (Blk wr w.heap.size 26 #[.int .i64 0, .int .i64 0, .int .i64 0, .slice none 0 0]) ∧ Hid (Blk wr J 26 #[.int .i64 (i : Int), .int .i64 (p : Int), .int .i64 (c : Int), .slice none 0 0]) ∧ Hid (Blk wr K 61 (tabArr (tab1s wh s0 k).T)) ∧ Hid (Below w.heap.size w wr)) (fun _ vg _ => 8 - (intOf vg).toNat)
  case atStart =>
    obtain ⟨q1, q2, q3, q4⟩ := HSTART.out
    exact ⟨0, by omega, rfl, by rw [tab1s, q3], by rw [tab1s, ← q1, ← q2]; exact HR8, HZ8, HF8, by rw [tab1s, q4]; exact HT9, HB8⟩
  case round =>
    obtain ⟨k, hk, rfl, rfl, hr, hz, hf, ht, hb⟩ := hrel
    clear HR8 HZ8 HF8 HB8 HT9
    by_cases hlt : k < 8
    · have hstep : tab1s wh s0 (k + 1) = tab1 wh k (tab1s wh s0 k) := rfl
      have hle := HLE.out k
      obtain ⟨S, hS⟩ : ∃ S, S = tab1s wh s0 k := ⟨_, rfl⟩
      rw [← hS] at hstep hr ht hle ⊢
      have hbits := bit64 wh k (by omega)
      by_cases hbit : wh / 2 ^ k % 2 = 1
      · rw [hbit] at hbits
        have hn := fun v h => number_l G S.left S.bad 2 (by decide) hle v h
        have hst2 : tab1 wh k S = ⟨(rN S.left S.bad 2).2.1, (rN S.left S.bad 2).2.2, S.empty || ((rN S.left S.bad 2).1 == 0), fun g => if g = k then (rN S.left S.bad 2).1 else S.T g⟩ := by unfold tab1; rw [if_pos hbit]
        have hn6 := rN_lt S.left S.bad 2
        obtain ⟨⟨n, l', b'⟩, hrn⟩ : ∃ x, rN S.left S.bad 2 = x := ⟨_, rfl⟩
        rw [hrn] at hn hst2 hn6
        dsimp only at hn hst2 hn6
        simp only [show ((2 : Nat) : Int) = 2 from rfl] at hn
        obtain ⟨T', hT'⟩ : ∃ T' : Nat → Nat, T' = fun g => if g = k then n else S.T g := ⟨_, rfl⟩
        rw [← hT'] at hst2
        have hta : (tabArr S.T).setIfInBounds k (.int .u64 ((n : Nat) : Int)) = tabArr T' := by
          have := tabArr_set S.T T' k hlt (fun x hx => by rw [hT']; show (if x = k then n else S.T x) = _; rw [if_neg hx])
          rw [← this, hT']
          show _ = (tabArr S.T).setIfInBounds k (.int .u64 (((if k = k then n else S.T k) : Nat) : Int))
          rw [if_pos rfl]
        have hget := tabArr_get S.T k hlt
        obtain ⟨old, hold⟩ : ∃ old, old = S.T k := ⟨_, rfl⟩
        rw [← hold] at hget
        have HN := Lib.hid hn
        have HST := Lib.hid (hstep.trans hst2)
        have HTA := Lib.hid hta
        have HGET := Lib.hid hget
        clear hn hst2 hta hget hrn hT' hold hbit hstep hle hS
        have hbelow : w.heap.size < G := hl1
        obtain ⟨em, hem⟩ : ∃ em, em = S.empty := ⟨_, rfl⟩
        rw [← hem]
        have HEM := Lib.hid hem
        clear hem
        by_cases hn0 : n = 0
        · have hnb : ((n : Int) == 0) = true := by rw [hn0]; rfl
          have HN0 := Lib.hid hn0
          clear hn0
          go_wp2_with fail
          refine (HN.out wr hr.out).mono ?_
          rintro e w2 ⟨rfl, hr2, hg2⟩
          have HR2 := Lib.hid hr2
          have HZ2 := Lib.hid (hz.out.grown hg2 (by intro e; injection e with e; omega))
          have HF2 := Lib.hid (hf.out.grown hg2 (by intro e; injection e with e; omega))
          have HT2 := Lib.hid (ht.out.grown hg2 (by intro e; injection e with e; omega))
          have HB2 := Lib.hid (below_gby hb.out hg2 hb.out.size (by omega))
          clear hr2 hg2 hr hz hf ht hb
          have e1 := (HT2.out.cell k).trans HGET.out
          have e2 := HT2.out.frozen k
          cases em
          all_goals
            go_wp2
            go_roundw
            case rel =>
              refine ⟨k + 1, by omega, by go_num, by rw [HST.out, ← HEM.out, HN0.out]; rfl, ?_, Lib.hid (HZ2.out.far (by simp; omega) _), Lib.hid (HF2.out.far (by simp; omega) _), ?_, Lib.hid (HB2.out.setCell (by simp; omega) _)⟩
              · rw [HST.out]; exact Lib.hid (HR2.out.far (by simp; omega) _)
              · rw [HST.out]; exact Lib.hid (by have := HT2.out.set_ k (.int .u64 ((n : Nat) : Int)); rw [HTA.out] at this; exact this)
            case measure => simp [intOf]; omega
        · have hnb : ((n : Int) == 0) = false := by rw [beq_eq_false_iff_ne]; omega
          have HN0 := Lib.hid hn0
          clear hn0
          go_wp2_with fail
          refine (HN.out wr hr.out).mono ?_
          rintro e w2 ⟨rfl, hr2, hg2⟩
          have HR2 := Lib.hid hr2
          have HZ2 := Lib.hid (hz.out.grown hg2 (by intro e; injection e with e; omega))
          have HF2 := Lib.hid (hf.out.grown hg2 (by intro e; injection e with e; omega))
          have HT2 := Lib.hid (ht.out.grown hg2 (by intro e; injection e with e; omega))
          have HB2 := Lib.hid (below_gby hb.out hg2 hb.out.size (by omega))
          clear hr2 hg2 hr hz hf ht hb
          have e1 := (HT2.out.cell k).trans HGET.out
          have e2 := HT2.out.frozen k
          cases em
          all_goals
            go_wp2
            go_roundw
            case rel =>
              refine ⟨k + 1, by omega, by go_num, by rw [HST.out, ← HEM.out, show (n == 0) = false from beq_eq_false_iff_ne.2 HN0.out]; rfl, ?_, Lib.hid (HZ2.out.far (by simp; omega) _), Lib.hid (HF2.out.far (by simp; omega) _), ?_, Lib.hid (HB2.out.setCell (by simp; omega) _)⟩
              · rw [HST.out]; exact Lib.hid (HR2.out.far (by simp; omega) _)
              · rw [HST.out]; exact Lib.hid (by have := HT2.out.set_ k (.int .u64 ((n : Nat) : Int)); rw [HTA.out] at this; exact this)
            case measure => simp [intOf]; omega
      · have hb0 : wh / 2 ^ k % 2 = 0 := by omega
        rw [hb0] at hbits
        have hst2 : tab1 wh k S = S := by unfold tab1; rw [if_neg hbit]
        have HST := Lib.hid (hstep.trans hst2)
        clear hst2 hbit hstep hb0 hle hS
        obtain ⟨em, hem⟩ : ∃ em, em = S.empty := ⟨_, rfl⟩
        rw [← hem]
        have HEM := Lib.hid hem
        clear hem
        go_wp2
        go_roundw
        case rel => exact ⟨k + 1, by omega, by go_num, by rw [HST.out, ← HEM.out], by rw [HST.out]; exact hr, hz, hf, by rw [HST.out]; exact ht, hb⟩
        case measure => simp [intOf]; omega
    · obtain rfl : k = 8 := by omega
      rw [show ((8 : Nat) : Int) = 8 from rfl]
      have hT6 := HTS.out 8
      have hl8 := HLE.out 8
      obtain ⟨S, hS⟩ : ∃ S, S = tab1s wh s0 8 := ⟨_, rfl⟩
      have hSH : S = all1 H := by rw [hS, HS0.out, ← HHH.out]; rfl
      rw [← hS] at hr ht hT6 hl8 ⊢
      have HSH := Lib.hid hSH
      have HT6 := Lib.hid hT6
      obtain ⟨u0, hu0⟩ : ∃ u0 : S2, u0 = ⟨S.left, S.bad, S.empty, []⟩ := ⟨_, rfl⟩
      have hle2 := fun k => Nat.le_trans (cell2s_left S.T u0 k) (show u0.left.length ≤ maxLen by rw [hu0]; exact hl8)
      have hln2 := fun k => (show (cell2s S.T u0 k).cs.length ≤ k by have := cell2s_len S.T u0 k; rw [hu0] at this ⊢; simpa using this)
      have HLE2 := Lib.hid hle2
      have HLN2 := Lib.hid hln2
      have HSTART2 := Lib.hid (show S.left = u0.left ∧ S.bad = u0.bad ∧ S.empty = u0.empty ∧ u0.cs = [] by rw [hu0]; exact ⟨rfl, rfl, rfl, rfl⟩)
      have HU0 := Lib.hid hu0
      clear hS hSH hT6 hl8 hu0 hle2 hln2 hlt HLE HTS HSTART hk HS0
      go_wp2_with fail
      go_loopw [11, 63] (fun ve vg wr => ∃ (k : Nat) (A : Option Addr) (n cap : Nat), k ≤ 64 ∧ vg = .int .i64 k ∧ ve = .bool (cell2s S.T u0 k).empty ∧ n = (cell2s S.T u0 k).cs.length ∧ Hid (Rdr wr G (cell2s S.T u0 k).left (cell2s S.T u0 k).bad) ∧ Hid (Blk wr w.heap.size 26 #[.int .i64 0, .int .i64 0, .int .i64 0, .slice none 0 0]) ∧ Hid (Blk wr J 26 #[.int .i64 (i : Int), .int .i64 (p : Int), .int .i64 (c : Int), .slice A n cap]) ∧ Hid (wr.ownsRow (K + 1) 33 2 (.slice A n cap) n (flatE encC ((cell2s S.T u0 k).cs.map mkC))) ∧ Hid (Blk wr K 61 (tabArr S.T)) ∧ Hid (Below w.heap.size w wr)) (fun _ vg _ => 64 - (intOf vg).toNat)
      case atStart =>
        obtain ⟨q1, q2, q3, q4⟩ := HSTART2.out
        exact ⟨0, none, 0, 0, by omega, rfl, by rw [cell2s, q3], by rw [cell2s, q4]; rfl, by rw [cell2s, ← q1, ← q2]; exact hr, hz, hf, by rw [cell2s, q4]; exact Lib.hid (own_nil _ _ _ _), ht, hb⟩
      case round =>
        clear hr hz hf ht hb
        obtain ⟨k, A, n, cap, hk, rfl, rfl, hn, hr, hz, hf, ho, ht, hb⟩ := hrel
        by_cases hlt : k < 64
        · have hstep : cell2s S.T u0 (k + 1) = cell2 S.T k (cell2s S.T u0 k) := rfl
          have hle := HLE2.out k
          have hnk := HLN2.out k
          obtain ⟨U, hU⟩ : ∃ U, U = cell2s S.T u0 k := ⟨_, rfl⟩
          rw [← hU] at hstep hr ho hn hle hnk ⊢
          have h2 := two64 (S.T (k / 8)) (k % 8) (by have := HT6.out (k / 8); omega)
          have hget := tabArr_get S.T (k / 8) (by omega)
          have hdd : S.T (k / 8) / 4 ^ (k % 8) % 4 = dg S.T k := rfl
          rw [hdd] at h2
          obtain ⟨q, hq⟩ : ∃ q, q = S.T (k / 8) := ⟨_, rfl⟩
          rw [← hq] at h2 hget
          have e1 := (ht.out.cell (k / 8)).trans hget
          have hd4 : dg S.T k < 4 := Nat.mod_lt _ (by decide)
          have d3 := hf.out.cell 3
          rw [show (#[Value.int IntKind.i64 (i : Int), .int .i64 (p : Int), .int .i64 (c : Int), .slice A n cap] : Array Value)[3]? = some (.slice A n cap) from rfl] at d3
          unfold cell2 at hstep
          obtain ⟨Ul, Ub, em, Uc⟩ := U
          simp only at hstep hr ho hn hle hnk ⊢
          have HN := Lib.hid hn
          have hn64 : n ≤ 64 := by omega
          have hkl := ht.out.lt
          have hgl2 := hr.out.lt
          have hzl := hz.out.lt
          have hfl := hf.out.lt
          have hsz := hb.out.size
          clear hq hdd hget hU hn hnk
          by_cases q0 : dg S.T k = 0
          · rw [q0] at h2
            rw [if_pos q0] at hstep
            have HST := Lib.hid hstep
            clear hstep q0
            go_wp2
            go_roundw
            case rel => exact ⟨k + 1, A, n, cap, by omega, by go_num, by rw [HST.out], by rw [HST.out]; exact HN.out, by rw [HST.out]; exact hr, hz, hf, by rw [HST.out]; exact ho, ht, hb⟩
            case measure => simp [intOf]; omega
          · rw [if_neg q0] at hstep
            by_cases q1 : dg S.T k = 1
            · rw [q1] at h2
              rw [if_pos q1] at hstep
              have HST := Lib.hid hstep
              clear hstep q0 q1
              go_wp2_with (at_builtin; refine print_append_cells (w0 := wr) (K + 1) rfl _ _ 22 33 _ 2 24 rfl Try.underlying22 infoC rfl (by decide) (by decide) (.slice A n cap) n (flatE encC (Uc.map mkC)) [.int .i64 (k : Int), .string (bs [])] rfl rfl rfl (by intro u hu; simp at hu; rcases hu with rfl | rfl <;> rfl) ho.out (Below.refl _ _) (by omega) (by omega) ?_)
              intro v1 w4 hown hb4 hg4 _
              obtain ⟨gr, cap4, rfl, hgr⟩ := own_succ hown
              have HR4 := Lib.hid (hr.out.below hb4 (by omega))
              have HZ4 := Lib.hid (hz.out.below hb4 (by omega))
              have HF4 := Lib.hid (hf.out.below hb4 (by omega))
              have HT4 := Lib.hid (ht.out.below hb4 (by omega))
              have HB4 := Lib.hid (show Below w.heap.size w w4 from hb.out.trans (hb4.mono (by omega)))
              have HO4 := Lib.hid hown
              clear hb4 hg4 hown d3 e1 hr hz hf ht hb ho
              have d3 := HF4.out.cell 3
              have g3 := HF4.out.frozen 3
              rw [show (#[Value.int IntKind.i64 (i : Int), .int .i64 (p : Int), .int .i64 (c : Int), .slice A n cap] : Array Value)[3]? = some (.slice A n cap) from rfl] at d3
              go_wp2
              go_roundw
              case rel =>
                refine ⟨k + 1, some ⟨gr, 0, none⟩, n + 1, cap4, by omega, by go_num, by rw [HST.out], by rw [HST.out]; show n + 1 = (Uc ++ [_]).length; rw [List.length_append, HN.out]; rfl, by rw [HST.out]; exact Lib.hid (HR4.out.far (by simp; omega) _), Lib.hid (HZ4.out.far (by simp; omega) _), Lib.hid (HF4.out.set_ 3 _), ?_, Lib.hid (HT4.out.far (by simp; omega) _), Lib.hid (HB4.out.setCell (by simp; omega) _)⟩
                rw [HST.out]
                show Hid (World.ownsRow _ _ _ _ _ _ (flatE encC ((Uc ++ [((k : Int), (bs []))]).map mkC)))
                rw [List.map_append, flatE_append]
                exact Lib.hid (own_set HO4.out (p := ⟨J, 3, none⟩) (by simp; omega) _)
              case measure => simp [intOf]; omega
            · rw [if_neg q1] at hstep
              by_cases q2 : dg S.T k = 2
              · rw [q2] at h2
                rw [if_pos q2] at hstep
                have htx := fun v h => text_l G Ul Ub 16 hle v h
                simp only [show ((16 : Nat) : Int) = 16 from rfl] at htx
                obtain ⟨⟨x, l', b'⟩, hrt⟩ : ∃ x, rT Ul Ub 16 = x := ⟨_, rfl⟩
                rw [hrt] at htx hstep
                dsimp only at htx hstep
                have HTX := Lib.hid htx
                have HST := Lib.hid hstep
                clear hstep htx hrt q0 q1 q2 hle
                go_wp2_with fail
                refine (HTX.out wr hr.out).mono ?_
                rintro e v2c ⟨rfl, hr2, hg2⟩
                have hsz2 := hg2.size
                have HR2 := Lib.hid hr2
                have HZ2 := Lib.hid (hz.out.grown hg2 (by intro e; injection e with e; omega))
                have HF2 := Lib.hid (hf.out.grown hg2 (by intro e; injection e with e; omega))
                have HT2 := Lib.hid (ht.out.grown hg2 (by intro e; injection e with e; omega))
                have HB2 := Lib.hid (below_gby hb.out hg2 hb.out.size (by omega))
                have HO2 := Lib.hid (own_gby ho.out hg2 (by omega))
                clear hr2 hg2 hr hz hf ht hb ho d3 e1 HTX
                obtain ⟨v3c, hv3⟩ : ∃ v3c, v3c = v2c.alloc (.cells #[.int .i64 (k : Int), .string (bs x)] 33) := ⟨_, rfl⟩
                have HR3 := Lib.hid (HR2.out.alloc (.cells #[.int .i64 (k : Int), .string (bs x)] 33))
                have HZ3 := Lib.hid (HZ2.out.alloc (.cells #[.int .i64 (k : Int), .string (bs x)] 33))
                have HF3 := Lib.hid (HF2.out.alloc (.cells #[.int .i64 (k : Int), .string (bs x)] 33))
                have HT3 := Lib.hid (HT2.out.alloc (.cells #[.int .i64 (k : Int), .string (bs x)] 33))
                have HB3 := Lib.hid (HB2.out.alloc HB2.out.size (.cells #[.int .i64 (k : Int), .string (bs x)] 33))
                have HO3 := Lib.hid (HO2.out.alloc (.cells #[.int .i64 (k : Int), .string (bs x)] 33))
                have HC3 := Blk.new v2c 33 #[.int .i64 (k : Int), .string (bs x)]
                have hsz3 : v2c.heap.size < (v2c.alloc (.cells #[.int .i64 (k : Int), .string (bs x)] 33)).heap.size := by simp
                rw [← hv3] at HR3 HZ3 HF3 HT3 HB3 HO3 HC3 hsz3
                have t0 := HC3.cell 0
                have t1_ := HC3.cell 1
                rw [show (#[Value.int IntKind.i64 (k : Int), .string (bs x)] : Array Value)[0]? = some (.int .i64 (k : Int)) from rfl] at t0
                rw [show (#[Value.int IntKind.i64 (k : Int), .string (bs x)] : Array Value)[1]? = some (.string (bs x)) from rfl] at t1_
                have d3 := HF3.out.cell 3
                rw [show (#[Value.int IntKind.i64 (i : Int), .int .i64 (p : Int), .int .i64 (c : Int), .slice A n cap] : Array Value)[3]? = some (.slice A n cap) from rfl] at d3
                clear HC3 HR2 HZ2 HF2 HT2 HB2 HO2
                cases em
                · by_cases hx : x = []
                  · subst hx
                    have HXB : Hid (((([] : List UInt8) == [])) = true) := Lib.hid rfl
                    go_upto_region 28 with fail
                    rw [← hv3]
                    clear hv3
                    go_wp2_with (at_builtin; refine print_append_cells (w0 := v3c) (K + 1) rfl _ _ 22 33 _ 2 24 rfl Try.underlying22 infoC rfl (by decide) (by decide) (.slice A n cap) n (flatE encC (Uc.map mkC)) [.int .i64 (k : Int), .string (bs [])] rfl rfl rfl (by intro u hu; simp at hu; rcases hu with rfl | rfl <;> rfl) HO3.out (Below.refl _ _) (by omega) (by omega) ?_)
                    intro v1 w4 hown hb4 hg4 _
                    obtain ⟨gr, cap4, rfl, hgr⟩ := own_succ hown
                    have HR4 := Lib.hid (HR3.out.below hb4 (by omega))
                    have HZ4 := Lib.hid (HZ3.out.below hb4 (by omega))
                    have HF4 := Lib.hid (HF3.out.below hb4 (by omega))
                    have HT4 := Lib.hid (HT3.out.below hb4 (by omega))
                    have HB4 := Lib.hid (show Below w.heap.size w w4 from HB3.out.trans (hb4.mono (by omega)))
                    have HO4 := Lib.hid hown
                    clear hb4 hg4 hown d3 t0 t1_
                    have d3 := HF4.out.cell 3
                    have g3 := HF4.out.frozen 3
                    rw [show (#[Value.int IntKind.i64 (i : Int), .int .i64 (p : Int), .int .i64 (c : Int), .slice A n cap] : Array Value)[3]? = some (.slice A n cap) from rfl] at d3
                    go_wp2
                    go_roundw
                    case rel =>
                      refine ⟨k + 1, some ⟨gr, 0, none⟩, n + 1, cap4, by omega, by go_num, by rw [HST.out]; show Value.bool true = .bool (false || (([] : List UInt8) == [])); rw [HXB.out]; rfl, by rw [HST.out]; show n + 1 = (Uc ++ [_]).length; rw [List.length_append, HN.out]; rfl, by rw [HST.out]; exact Lib.hid (HR4.out.far (by simp; omega) _), Lib.hid (HZ4.out.far (by simp; omega) _), Lib.hid (HF4.out.set_ 3 _), ?_, Lib.hid (HT4.out.far (by simp; omega) _), Lib.hid (HB4.out.setCell (by simp; omega) _)⟩
                      rw [HST.out]
                      show Hid (World.ownsRow _ _ _ _ _ _ (flatE encC ((Uc ++ [((k : Int), (bs []))]).map mkC)))
                      rw [List.map_append, flatE_append]
                      exact Lib.hid (own_set HO4.out (p := ⟨J, 3, none⟩) (by simp; omega) _)
                    case measure => simp [intOf]; omega
                  · have hxb : (x == []) = false := by rw [beq_eq_false_iff_ne]; exact hx
                    have HXB := Lib.hid hxb
                    clear hxb
                    go_upto_region 28 with fail
                    rw [← hv3]
                    clear hv3
                    go_wp2_with (at_builtin; refine print_append_cells (w0 := v3c) (K + 1) rfl _ _ 22 33 _ 2 24 rfl Try.underlying22 infoC rfl (by decide) (by decide) (.slice A n cap) n (flatE encC (Uc.map mkC)) [.int .i64 (k : Int), .string (bs x)] rfl rfl rfl (by intro u hu; simp at hu; rcases hu with rfl | rfl <;> rfl) HO3.out (Below.refl _ _) (by omega) (by omega) ?_)
                    intro v1 w4 hown hb4 hg4 _
                    obtain ⟨gr, cap4, rfl, hgr⟩ := own_succ hown
                    have HR4 := Lib.hid (HR3.out.below hb4 (by omega))
                    have HZ4 := Lib.hid (HZ3.out.below hb4 (by omega))
                    have HF4 := Lib.hid (HF3.out.below hb4 (by omega))
                    have HT4 := Lib.hid (HT3.out.below hb4 (by omega))
                    have HB4 := Lib.hid (show Below w.heap.size w w4 from HB3.out.trans (hb4.mono (by omega)))
                    have HO4 := Lib.hid hown
                    clear hb4 hg4 hown d3 t0 t1_
                    have d3 := HF4.out.cell 3
                    have g3 := HF4.out.frozen 3
                    rw [show (#[Value.int IntKind.i64 (i : Int), .int .i64 (p : Int), .int .i64 (c : Int), .slice A n cap] : Array Value)[3]? = some (.slice A n cap) from rfl] at d3
                    go_wp2
                    go_roundw
                    case rel =>
                      refine ⟨k + 1, some ⟨gr, 0, none⟩, n + 1, cap4, by omega, by go_num, by rw [HST.out]; show Value.bool x.isEmpty = .bool (false || (x == [])); rw [HXB.out]; exact (by cases x; (· exact absurd rfl hx); rfl), by rw [HST.out]; show n + 1 = (Uc ++ [_]).length; rw [List.length_append, HN.out]; rfl, by rw [HST.out]; exact Lib.hid (HR4.out.far (by simp; omega) _), Lib.hid (HZ4.out.far (by simp; omega) _), Lib.hid (HF4.out.set_ 3 _), ?_, Lib.hid (HT4.out.far (by simp; omega) _), Lib.hid (HB4.out.setCell (by simp; omega) _)⟩
                      rw [HST.out]
                      show Hid (World.ownsRow _ _ _ _ _ _ (flatE encC ((Uc ++ [((k : Int), (bs x))]).map mkC)))
                      rw [List.map_append, flatE_append]
                      exact Lib.hid (own_set HO4.out (p := ⟨J, 3, none⟩) (by simp; omega) _)
                    case measure => simp [intOf]; omega
                · go_upto_region 28 with fail
                  rw [← hv3]
                  clear hv3
                  go_wp2_with (at_builtin; refine print_append_cells (w0 := v3c) (K + 1) rfl _ _ 22 33 _ 2 24 rfl Try.underlying22 infoC rfl (by decide) (by decide) (.slice A n cap) n (flatE encC (Uc.map mkC)) [.int .i64 (k : Int), .string (bs x)] rfl rfl rfl (by intro u hu; simp at hu; rcases hu with rfl | rfl <;> rfl) HO3.out (Below.refl _ _) (by omega) (by omega) ?_)
                  intro v1 w4 hown hb4 hg4 _
                  obtain ⟨gr, cap4, rfl, hgr⟩ := own_succ hown
                  have HR4 := Lib.hid (HR3.out.below hb4 (by omega))
                  have HZ4 := Lib.hid (HZ3.out.below hb4 (by omega))
                  have HF4 := Lib.hid (HF3.out.below hb4 (by omega))
                  have HT4 := Lib.hid (HT3.out.below hb4 (by omega))
                  have HB4 := Lib.hid (show Below w.heap.size w w4 from HB3.out.trans (hb4.mono (by omega)))
                  have HO4 := Lib.hid hown
                  clear hb4 hg4 hown d3 t0 t1_
                  have d3 := HF4.out.cell 3
                  have g3 := HF4.out.frozen 3
                  rw [show (#[Value.int IntKind.i64 (i : Int), .int .i64 (p : Int), .int .i64 (c : Int), .slice A n cap] : Array Value)[3]? = some (.slice A n cap) from rfl] at d3
                  go_wp2
                  go_roundw
                  case rel =>
                    refine ⟨k + 1, some ⟨gr, 0, none⟩, n + 1, cap4, by omega, by go_num, by rw [HST.out]; rfl, by rw [HST.out]; show n + 1 = (Uc ++ [_]).length; rw [List.length_append, HN.out]; rfl, by rw [HST.out]; exact Lib.hid (HR4.out.far (by simp; omega) _), Lib.hid (HZ4.out.far (by simp; omega) _), Lib.hid (HF4.out.set_ 3 _), ?_, Lib.hid (HT4.out.far (by simp; omega) _), Lib.hid (HB4.out.setCell (by simp; omega) _)⟩
                    rw [HST.out]
                    show Hid (World.ownsRow _ _ _ _ _ _ (flatE encC ((Uc ++ [((k : Int), (bs x))]).map mkC)))
                    rw [List.map_append, flatE_append]
                    exact Lib.hid (own_set HO4.out (p := ⟨J, 3, none⟩) (by simp; omega) _)
                  case measure => simp [intOf]; omega
              · have q3 : dg S.T k = 3 := by omega
                rw [q3] at h2
                rw [if_neg q2] at hstep
                have HST := Lib.hid hstep
                clear hstep q0 q1 q2 q3
                go_wp2
                go_roundw
                case rel => exact ⟨k + 1, A, n, cap, by omega, by go_num, by rw [HST.out], by rw [HST.out]; exact HN.out, by rw [HST.out]; exact hr, hz, hf, by rw [HST.out]; exact ho, ht, hb⟩
                case measure => simp [intOf]; omega
        · obtain rfl : k = 64 := by omega
          obtain ⟨U, hU⟩ : ∃ U, U = cell2s S.T u0 64 := ⟨_, rfl⟩
          rw [← hU] at hn hr ho ⊢
          have HUH : Hid (U = all2 (all1 H)) := Lib.hid (by rw [hU, HU0.out, ← HSH.out]; rfl)
          have ho' := fun v => over_l G U.left U.bad v
          have HO := Lib.hid ho'
          clear ho' hU
          obtain ⟨ob, hob⟩ : ∃ ob, ob = (U.left.isEmpty && !U.bad) := ⟨_, rfl⟩
          obtain ⟨em, hem⟩ : ∃ em, em = U.empty := ⟨_, rfl⟩
          rw [← hob] at HO
          rw [← hem]
          have HOB := Lib.hid hob
          have HEM := Lib.hid hem
          have HN := Lib.hid hn
          clear hob hem hlt hk hn
          have c0 := hz.out.cell 0
          have c1 := hz.out.cell 1
          have c2 := hz.out.cell 2
          have c3 := hz.out.cell 3
          have f0 := hz.out.frozen 0
          have f1 := hz.out.frozen 1
          have f2 := hz.out.frozen 2
          have f3 := hz.out.frozen 3
          rw [show (#[.int .i64 0, .int .i64 0, .int .i64 0, .slice none 0 0] : Array Value)[0]? = some (.int .i64 0) from rfl] at c0
          rw [show (#[.int .i64 0, .int .i64 0, .int .i64 0, .slice none 0 0] : Array Value)[1]? = some (.int .i64 0) from rfl] at c1
          rw [show (#[.int .i64 0, .int .i64 0, .int .i64 0, .slice none 0 0] : Array Value)[2]? = some (.int .i64 0) from rfl] at c2
          rw [show (#[.int .i64 0, .int .i64 0, .int .i64 0, .slice none 0 0] : Array Value)[3]? = some (.slice none 0 0) from rfl] at c3
          have d0 := hf.out.cell 0
          have d1 := hf.out.cell 1
          have d2 := hf.out.cell 2
          have d3 := hf.out.cell 3
          rw [show (#[Value.int IntKind.i64 (i : Int), .int .i64 (p : Int), .int .i64 (c : Int), .slice A n cap] : Array Value)[0]? = some (.int .i64 (i : Int)) from rfl] at d0
          rw [show (#[Value.int IntKind.i64 (i : Int), .int .i64 (p : Int), .int .i64 (c : Int), .slice A n cap] : Array Value)[1]? = some (.int .i64 (p : Int)) from rfl] at d1
          rw [show (#[Value.int IntKind.i64 (i : Int), .int .i64 (p : Int), .int .i64 (c : Int), .slice A n cap] : Array Value)[2]? = some (.int .i64 (c : Int)) from rfl] at d2
          rw [show (#[Value.int IntKind.i64 (i : Int), .int .i64 (p : Int), .int .i64 (c : Int), .slice A n cap] : Array Value)[3]? = some (.slice A n cap) from rfl] at d3
          have hok : okI H (all2 (all1 H)) = (U.left.isEmpty && !U.bad && (nm == magicL) && !U.empty && frB i p c U.cs) := by rw [← HUH.out, ← HHH.out]; rfl
          have HOK := Lib.hid hok
          clear hok
          cases ob
          · go_wp2_with fail
            refine (HO.out wr hr.out).mono ?_
            rintro e w2 ⟨rfl, rfl⟩
            go_wp2_with fail
            have hno : okI H (all2 (all1 H)) = false := by rw [HOK.out, ← HOB.out]; rfl
            have ht_ := HTK.out
            rw [hno, if_neg (by decide)] at ht_
            rw [ht_]
            refine bodyPost_ret (results_row_tmp rfl _ _ w.heap.size _ _ _ _ rfl ((((hz.out.set_ 0 (.int .i64 0)).set_ 1 (.int .i64 0)).set_ 2 (.int .i64 0)).set_ 3 (.slice none 0 0)) Try.underlying26 rfl (by rw [fl_info]; rfl)) rfl ?_
            refine ⟨_, rfl, own_nil _ _ _ _, ?_⟩
            repeat (refine below_set ?_ (Nat.le_refl _))
            exact hb.out
          · go_wp2_with fail
            refine (HO.out wr hr.out).mono ?_
            rintro e w2 ⟨rfl, rfl⟩
            go_wp2_with fail
            all_goals first
              | (have hno : okI H (all2 (all1 H)) = false := by rw [HOK.out, ← HOB.out, ← HEM.out]; simp [magicL, *]
                 have ht_ := HTK.out
                 rw [hno, if_neg (by decide)] at ht_
                 rw [ht_]
                 refine bodyPost_ret (results_row_tmp rfl _ _ w.heap.size _ _ _ _ rfl ((((hz.out.set_ 0 (.int .i64 0)).set_ 1 (.int .i64 0)).set_ 2 (.int .i64 0)).set_ 3 (.slice none 0 0)) Try.underlying26 rfl (by rw [fl_info]; rfl)) rfl ?_
                 refine ⟨_, rfl, own_nil _ _ _ _, ?_⟩
                 repeat (refine below_set ?_ (Nat.le_refl _))
                 exact hb.out)
              | skip
            have hsz : sizedC (U.cs.map mkC) = true := by
              unfold sizedC
              rw [List.all_eq_true]
              intro x hx
              obtain ⟨y, hy, rfl⟩ := List.mem_map.1 hx
              have := cell2s_small S.T u0 HSTART2.out.2.2.2 64
              have hUU : U = cell2s S.T u0 64 := by rw [HUH.out, ← HSH.out, HU0.out]; rfl
              rw [← hUU] at this
              have := this y hy
              show decide (y.2.size ≤ maxLen) = true
              rw [decide_eq_true_eq]
              unfold maxLen
              omega
            have hcr : CRow wr A n U.cs := by
              have hown := ho.out
              rw [HN.out] at hown
              have hl2 : U.cs.length = (U.cs.map mkC).length := (List.length_map _).symm
              rw [hl2] at hown
              obtain ⟨A2, c2, he, hle, hC⟩ := Kd.R_reads (ownC_R hown)
              injection he with e1 e2 e3
              subst e1
              have h2 := crow_of_C hC hsz
              rw [prs_mk, ← hl2, ← HN.out] at h2
              exact h2
            have hnl : n ≤ 64 := by
              have := HLN2.out 64
              have hUU : U = cell2s S.T u0 64 := by rw [HUH.out, ← HSH.out, HU0.out]; rfl
              rw [← hUU] at this
              rw [HN.out]; exact this
            refine (iright_any A n cap i p c U.cs wr (by unfold maxLen; omega) hcr).mono ?_
            rintro e w3 ⟨rfl, hb3⟩
            have HZ3 := Lib.hid (hz.out.below hb3 hz.out.lt)
            have HF3 := Lib.hid (hf.out.below hb3 hf.out.lt)
            have HB3 := Lib.hid (hb.out.trans (hb3.mono hb.out.size))
            have HO3 := Lib.hid (pw_own_below ho.out hb3)
            clear hb3 hz hf hb ho hr ht c0 c1 c2 c3 f0 f1 f2 f3 d0 d1 d2 d3 hsz hcr
            have c0 := HZ3.out.cell 0
            have c1 := HZ3.out.cell 1
            have c2 := HZ3.out.cell 2
            have c3 := HZ3.out.cell 3
            have f0 := HZ3.out.frozen 0
            have f1 := HZ3.out.frozen 1
            have f2 := HZ3.out.frozen 2
            have f3 := HZ3.out.frozen 3
            rw [show (#[.int .i64 0, .int .i64 0, .int .i64 0, .slice none 0 0] : Array Value)[0]? = some (.int .i64 0) from rfl] at c0
            rw [show (#[.int .i64 0, .int .i64 0, .int .i64 0, .slice none 0 0] : Array Value)[1]? = some (.int .i64 0) from rfl] at c1
            rw [show (#[.int .i64 0, .int .i64 0, .int .i64 0, .slice none 0 0] : Array Value)[2]? = some (.int .i64 0) from rfl] at c2
            rw [show (#[.int .i64 0, .int .i64 0, .int .i64 0, .slice none 0 0] : Array Value)[3]? = some (.slice none 0 0) from rfl] at c3
            have d0 := HF3.out.cell 0
            have d1 := HF3.out.cell 1
            have d2 := HF3.out.cell 2
            have d3 := HF3.out.cell 3
            rw [show (#[Value.int IntKind.i64 (i : Int), .int .i64 (p : Int), .int .i64 (c : Int), .slice A n cap] : Array Value)[0]? = some (.int .i64 (i : Int)) from rfl] at d0
            rw [show (#[Value.int IntKind.i64 (i : Int), .int .i64 (p : Int), .int .i64 (c : Int), .slice A n cap] : Array Value)[1]? = some (.int .i64 (p : Int)) from rfl] at d1
            rw [show (#[Value.int IntKind.i64 (i : Int), .int .i64 (p : Int), .int .i64 (c : Int), .slice A n cap] : Array Value)[2]? = some (.int .i64 (c : Int)) from rfl] at d2
            rw [show (#[Value.int IntKind.i64 (i : Int), .int .i64 (p : Int), .int .i64 (c : Int), .slice A n cap] : Array Value)[3]? = some (.slice A n cap) from rfl] at d3
            obtain ⟨fb, hfb⟩ : ∃ fb, fb = frB i p c U.cs := ⟨_, rfl⟩
            rw [← hfb]
            have HFB := Lib.hid hfb
            clear hfb
            cases fb
            · go_wp2_with fail
              have hno : okI H (all2 (all1 H)) = false := by rw [HOK.out, ← HFB.out, Bool.and_false]
              have ht_ := HTK.out
              rw [hno, if_neg (by decide)] at ht_
              rw [ht_]
              refine bodyPost_ret (results_row_tmp rfl _ _ w.heap.size _ _ _ _ rfl ((((HZ3.out.set_ 0 (.int .i64 0)).set_ 1 (.int .i64 0)).set_ 2 (.int .i64 0)).set_ 3 (.slice none 0 0)) Try.underlying26 rfl (by rw [fl_info]; rfl)) rfl ?_
              refine ⟨_, rfl, own_nil _ _ _ _, ?_⟩
              repeat (refine below_set ?_ (Nat.le_refl _))
              exact HB3.out
            · go_wp2_with fail
              have hno : okI H (all2 (all1 H)) = true := by rw [HOK.out, ← HOB.out, ← HEM.out, ← HFB.out]; simp [magicL, *]
              have ht_ := HTK.out
              rw [hno, if_pos rfl] at ht_
              rw [ht_]
              refine bodyPost_ret (results_row_tmp rfl _ _ w.heap.size _ _ _ _ rfl ((((HZ3.out.set_ 0 (.int .i64 (i : Int))).set_ 1 (.int .i64 (p : Int))).set_ 2 (.int .i64 (c : Int))).set_ 3 (.slice A n cap)) Try.underlying26 rfl (by rw [fl_info]; rfl)) rfl ?_
              refine ⟨.slice A n cap, by rw [← HHH.out]; rfl, ?_, ?_⟩
              · rw [← HUH.out]
                show World.ownsRow _ _ _ _ _ _ _
                rw [List.length_map, ← HN.out]
                refine own_weaken (base := K + 1) ?_ (by omega)
                exact own_set (own_set (own_set (own_set HO3.out (p := ⟨w.heap.size, 0, none⟩) (by simp; omega) _) (p := ⟨w.heap.size, 1, none⟩) (by simp; omega) _) (p := ⟨w.heap.size, 2, none⟩) (by simp; omega) _) (p := ⟨w.heap.size, 3, none⟩) (by simp; omega) _
              · repeat (refine below_set ?_ (Nat.le_refl _))
                exact HB3.out
set_option maxRecDepth 100000 in
theorem itake_err (s : ByteArray) (hs : s.size ≤ maxLen) (w : World) (hne : (tk s.data.toList).2 ≠ 0) :
    Calls Try.prog 20 #[.string s] w fun e w' => ∃ v4_ : Value, e = .returned (.tuple #[.agg #[.int .i64 (takeI s.data.toList).1.1, .int .i64 (takeI s.data.toList).1.2.1, .int .i64 (takeI s.data.toList).1.2.2.1, v4_], .int .i64 (takeI s.data.toList).2]) ∧ ownC w' w.heap.size v4_ ((takeI s.data.toList).1.2.2.2.map mkC) ∧ Below w.heap.size w w' := by
  have htake : takeI s.data.toList = ((0, 0, 0, []), (tk s.data.toList).2) := by unfold takeI; rw [if_pos hne]
  have hb0 : ((tk s.data.toList).2 == 0) = false := by simpa using hne
  have hb1 : ((tk s.data.toList).2 != 0) = true := by simpa using hne
  rw [htake]
  clear htake
  generalize ht : (tk s.data.toList).2 = t at hne hb0 hb1 ⊢
  have HT := Lib.hid ht
  clear ht
  have hst := fun w => stake_any s hs w
  rw [HT.out] at hst
  have HST := Lib.hid hst
  clear hst
  go_enter Try.func20, Try.ntmps20
  go_wp2_with fail
  refine (HST.out _).mono ?_
  rintro e w1 ⟨rfl, hb1_⟩
  have hk : Blk w1 w.heap.size 26 #[.int .i64 0, .int .i64 0, .int .i64 0, .slice none 0 0] := (Blk.new w _ _).below hb1_ (by simp)
  have hbel : Below w.heap.size w w1 := ((Below.refl _ _).alloc (Nat.le_refl _) _).trans (hb1_.mono (by simp))
  have c0 := hk.cell 0
  have c1 := hk.cell 1
  have c2 := hk.cell 2
  have c3 := hk.cell 3
  have f0 := hk.frozen 0
  have f1 := hk.frozen 1
  have f2 := hk.frozen 2
  have f3 := hk.frozen 3
  rw [show (#[.int .i64 0, .int .i64 0, .int .i64 0, .slice none 0 0] : Array Value)[0]? = some (.int .i64 0) from rfl] at c0
  rw [show (#[.int .i64 0, .int .i64 0, .int .i64 0, .slice none 0 0] : Array Value)[1]? = some (.int .i64 0) from rfl] at c1
  rw [show (#[.int .i64 0, .int .i64 0, .int .i64 0, .slice none 0 0] : Array Value)[2]? = some (.int .i64 0) from rfl] at c2
  rw [show (#[.int .i64 0, .int .i64 0, .int .i64 0, .slice none 0 0] : Array Value)[3]? = some (.slice none 0 0) from rfl] at c3
  have HBL := Lib.hid hbel
  have HK := Lib.hid hk
  clear hbel hb1_ hk
  go_wp2_with fail
  have h3 := (((HK.out.set_ 0 (.int .i64 0)).set_ 1 (.int .i64 0)).set_ 2 (.int .i64 0)).set_ 3 (.slice none 0 0)
  refine bodyPost_ret (results_row_tmp rfl _ _ w.heap.size _ _ _ _ rfl h3 Try.underlying26 rfl (by rw [fl_info]; rfl)) rfl ?_
  refine ⟨_, rfl, own_nil _ _ _ _, ?_⟩
  repeat (refine below_set ?_ (Nat.le_refl _))
  exact HBL.out
def image_Take.f (a0 : ByteArray) : Option (Int × Int × Int × (List SC) × Int) := if a0.size ≤ maxLen then some ((takeI a0.data.toList).1.1, (takeI a0.data.toList).1.2.1, (takeI a0.data.toList).1.2.2.1, (takeI a0.data.toList).1.2.2.2.map mkC, (takeI a0.data.toList).2) else none
theorem image_Take.calls (a0 : ByteArray) (r1 : Int) (r2 : Int) (r3 : Int) (r4 : List SC) (r5 : Int) (w : World) (h : image_Take.f a0 = some (r1, r2, r3, r4, r5)) :
    Calls Try.prog 20 #[.string a0] w fun e w' => ∃ v3_ : Value, e = .returned (.tuple #[.agg #[.int .i64 r1, .int .i64 r2, .int .i64 r3, v3_], .int .i64 r5]) ∧ Kd.R kC 33 w' w.heap.size (fun _ => True) v3_ r4 ∧ Below w.heap.size w w' := by
  unfold image_Take.f at h
  by_cases hs : a0.size ≤ maxLen
  · rw [if_pos hs] at h
    have h := Option.some.inj h
    simp only [Prod.mk.injEq] at h
    obtain ⟨rfl, rfl, rfl, rfl, rfl⟩ := h
    have hmain : Calls Try.prog 20 #[.string a0] w fun e w' => ∃ v4_ : Value, e = .returned (.tuple #[.agg #[.int .i64 (takeI a0.data.toList).1.1, .int .i64 (takeI a0.data.toList).1.2.1, .int .i64 (takeI a0.data.toList).1.2.2.1, v4_], .int .i64 (takeI a0.data.toList).2]) ∧ ownC w' w.heap.size v4_ ((takeI a0.data.toList).1.2.2.2.map mkC) ∧ Below w.heap.size w w' := by
      by_cases hne : (tk a0.data.toList).2 = 0
      · have hl := tk_length a0.data.toList
        rw [size_list] at hl
        exact itake_ok a0 hs w (tk a0.data.toList).1 (Prod.ext rfl hne) (Nat.le_trans hl hs) _ rfl
      · exact itake_err a0 hs w hne
    refine hmain.mono ?_
    rintro e w' ⟨v, he, ho, hb⟩
    exact ⟨v, he, ownC_R ho, hb⟩
  · rw [if_neg hs] at h; cases h
end Go.Proofs.Ytolpnbeepiblkaa.Pr
