/- The contract of the reference's Take (rootcellarref10), whole. Condition: the text is no longer than texts can be. -/
import Derived.Test.YtolpnbeepiblkaaHITake
import Derived.Test.YtolpnbeepiblkaaTkP
import Derived.Test.YtolpnbeepiblkaaRefSealC
namespace Go.Proofs.Ytolpnbeepiblkaa
open Go.RowKit
theorem digs_len (g n : Nat) (i : Nat) : (digs g n i).length ≤ i := by
  induction i with
  | zero => exact Nat.le_refl _
  | succ i ih =>
    rw [digs, List.length_append]
    split
    · simp only [List.length_nil]; omega
    · simp only [List.length_singleton]; omega
theorem grp3s_left (wh : Nat) (s : S3) (k : Nat) : (grp3s wh s k).left.length ≤ s.left.length := by
  induction k with
  | zero => exact Nat.le_refl _
  | succ k ih =>
    rw [grp3s]
    unfold grp3
    split
    · exact ih
    · exact Nat.le_trans (rN_left _ _ _) ih
theorem grp3s_len (wh : Nat) (s : S3) (k : Nat) : (grp3s wh s k).cs.length ≤ s.cs.length + 8 * k := by
  induction k with
  | zero => exact Nat.le_refl _
  | succ k ih =>
    rw [grp3s]
    unfold grp3
    split
    · omega
    · show ((grp3s wh s k).cs ++ _).length ≤ _
      rw [List.length_append]
      have := digs_len k (rN (grp3s wh s k).left (grp3s wh s k).bad 2).1 8
      omega
theorem fill_left (cs : List (Nat × Bool)) : ∀ (l : List UInt8) (bad : Bool), (fill cs l bad).2.1.length ≤ l.length ∧ (fill cs l bad).1.length = cs.length ∧ ∀ c ∈ (fill cs l bad).1, c.2.size ≤ 16 := by
  induction cs with
  | nil => intro l bad; exact ⟨Nat.le_refl _, rfl, fun c hc => by cases hc⟩
  | cons c r ih =>
    intro l bad
    obtain ⟨a, t⟩ := c
    cases t
    · obtain ⟨h1, h2, h3⟩ := ih l bad
      refine ⟨h1, by show (fill r l bad).1.length + 1 = _; rw [h2]; rfl, ?_⟩
      intro c hc
      rcases List.mem_cons.1 hc with rfl | hc
      · exact Nat.zero_le _
      · exact h3 c hc
    · obtain ⟨h1, h2, h3⟩ := ih (rT l bad 16).2.1 (rT l bad 16).2.2
      have hT := rT_le l bad 16
      refine ⟨Nat.le_trans h1 hT.2.1, by show (fill r _ _).1.length + 1 = _; rw [h2]; rfl, ?_⟩
      intro c hc
      rcases List.mem_cons.1 hc with rfl | hc
      · show (bs _).size ≤ 16
        rw [bs_size]; exact hT.1
      · exact h3 c hc
def txt : List UInt8 := [116, 101, 120, 116]
end Go.Proofs.Ytolpnbeepiblkaa
namespace Go.Proofs.Ytolpnbeepiblkaa.Pr
open Go.RowKit Go.Proofs.YtolpnbeepiblkaaW.PrintWords Go.Proofs.YtolpnbeepiblkaaW.PrintLast Go.Proofs.Ytolpnbeepiblkaa
set_option linter.unusedVariables false
def mkM (m : Nat × Bool) : SR := ⟨(m.1 : Int), if m.2 = true then bs txt else bs []⟩
def mkQ (c : C) : SR := toR (mkC c)
def encR (x : SR) : List Value := [.int .i64 x.f0, .string x.f1]
theorem encR_len (x : SR) : (encR x).length = 2 := rfl
theorem encR_mk (w : World) (base : Nat) (ok : Nat → Prop) (x : SR) : kR.M w base ok x (encR x) := k67_mkM w base ok x
theorem infoR : (Try.prog.info? 67).map (fun i => (i.zero, i.size, i.bytes)) = some (some (.agg #[.int .i64 0, .string ⟨#[]⟩]), 2, 24) := by kernel_rfl
abbrev ownQ (w : World) (base : Nat) (v : Value) (l : List SR) : Prop := w.ownsRow base 67 2 v l.length (flatE encR l)
theorem ownQ_R {w : World} {base : Nat} {v : Value} {l : List SR} (h : ownQ w base v l) : Kd.R kR 67 w base (fun _ => True) v l := R_of_own (d := kR) encR_len encR_mk h (fun _ _ => trivial)
theorem flR_info : (Try.prog.info? 40).map (·.size) = some 4 := by kernel_rfl
abbrev F0 : Array Value := #[.int .i64 0, .int .i64 0, .int .i64 0, .slice none 0 0]
theorem mod4 (q : Nat) : (q : Int).tmod 4 = ((q % 4 : Nat) : Int) := by rw [Int.tmod_eq_emod_of_nonneg (by omega)]; omega
theorem div4 (q : Nat) : (q : Int).tdiv 4 = ((q / 4 : Nat) : Int) := by rw [Int.tdiv_eq_ediv_of_nonneg (by omega)]; omega
theorem get_text (X Y : List SR) (a : Int) (t : ByteArray) : (flatE encR (X ++ ⟨a, t⟩ :: Y))[X.length * 2 + 1]? = some (.string t) := by
  rw [flatE_append, List.getElem?_append_right (by rw [flatE_length encR_len]; omega), flatE_length encR_len, show X.length * 2 + 1 - X.length * 2 = 1 from by omega]
  rfl
theorem own_pos {w : World} {base n cap : Nat} {e : TypeId} {size : Nat} {A : Option Addr} {xs : List Value} (h : w.ownsRow base e size (.slice A n cap) n xs) (hn : 0 < n) : ∃ g, A = some ⟨g, 0, none⟩ ∧ base ≤ g := by
  obtain ⟨m, rfl⟩ : ∃ m, n = m + 1 := ⟨n - 1, by omega⟩
  obtain ⟨g, c, he, hg⟩ := own_succ h
  injection he with e1 e2 e3
  exact ⟨g, e1, hg⟩
theorem bitI_0 (n k : Nat) (h : n / 2 ^ k % 2 = 0) : ((n : Int) / 2 ^ k).tmod 2 = 0 := by
  have e : (n : Int) / 2 ^ k = ((n / 2 ^ k : Nat) : Int) := by rw [Int.natCast_ediv, Int.natCast_pow]; rfl
  rw [e]
  generalize n / 2 ^ k = q at h ⊢
  rw [Int.tmod_eq_emod_of_nonneg (by omega)]; omega
theorem bitI_1 (n k : Nat) (h : ¬ n / 2 ^ k % 2 = 0) : ((n : Int) / 2 ^ k).tmod 2 = 1 := by
  have e : (n : Int) / 2 ^ k = ((n / 2 ^ k : Nat) : Int) := by rw [Int.natCast_ediv, Int.natCast_pow]; rfl
  rw [e]
  generalize n / 2 ^ k = q at h ⊢
  rw [Int.tmod_eq_emod_of_nonneg (by omega)]; omega
theorem set_text (X Y : List SR) (a : Int) (t u : ByteArray) : (flatE encR (X ++ ⟨a, t⟩ :: Y)).set (X.length * 2 + 1) (.string u) = flatE encR (X ++ ⟨a, u⟩ :: Y) := by
  rw [flatE_append, flatE_append, flatE_cons, flatE_cons, List.set_append_right _ _ (by rw [flatE_length encR_len]; omega), flatE_length encR_len, show X.length * 2 + 1 - X.length * 2 = 1 from by omega]
  rfl
set_option maxRecDepth 100000 in
set_option maxHeartbeats 4000000 in
theorem rtake_ok (s : ByteArray) (hs : s.size ≤ maxLen) (w : World) (l : List UInt8) (hok : tk s.data.toList = (l, 0)) (hll : l.length ≤ maxLen) (H : Hd) (hH : hdr l = H) :
    Calls Try.prog 21 #[.string s] w fun e w' => ∃ v4_ : Value, e = .returned (.tuple #[.agg #[.int .i64 (takeR s.data.toList).1.1, .int .i64 (takeR s.data.toList).1.2.1, .int .i64 (takeR s.data.toList).1.2.2.1, v4_], .int .i64 (takeR s.data.toList).2]) ∧ ownQ w' w.heap.size v4_ ((takeR s.data.toList).1.2.2.2.map mkQ) ∧ Below w.heap.size w w' := by
  obtain ⟨⟨nm, l1, b1⟩, e1⟩ : ∃ x, rT l false 4 = x := ⟨_, rfl⟩
  obtain ⟨⟨i, l2, b2⟩, e2⟩ : ∃ x, rN l1 b1 4 = x := ⟨_, rfl⟩
  obtain ⟨⟨p, l3, b3⟩, e3⟩ : ∃ x, rN l2 b2 4 = x := ⟨_, rfl⟩
  obtain ⟨⟨c, l4, b4⟩, e4⟩ : ∃ x, rN l3 b3 1 = x := ⟨_, rfl⟩
  obtain ⟨⟨wh, l5, b5⟩, e5⟩ : ∃ x, rN l4 b4 1 = x := ⟨_, rfl⟩
  rw [hdr_of e1 e2 e3 e4 e5] at hH
  have z1 : l1.length ≤ maxLen := by have := (rT_le l false 4).2.1; rw [e1] at this; exact Nat.le_trans this hll
  have z2 : l2.length ≤ maxLen := by have := rN_left l1 b1 4; rw [e2] at this; exact Nat.le_trans this z1
  have z3 : l3.length ≤ maxLen := by have := rN_left l2 b2 4; rw [e3] at this; exact Nat.le_trans this z2
  have z4 : l4.length ≤ maxLen := by have := rN_left l3 b3 1; rw [e4] at this; exact Nat.le_trans this z3
  have z5 : l5.length ≤ maxLen := by have := rN_left l4 b4 1; rw [e5] at this; exact Nat.le_trans this z4
  have y2 : i < 4294967296 := by have := rN_lt l1 b1 4; rw [e2] at this; exact this
  have y3 : p < 4294967296 := by have := rN_lt l2 b2 4; rw [e3] at this; exact this
  have y4 : c < 256 := by have := rN_lt l3 b3 1; rw [e4] at this; exact this
  have y5 : wh < 256 := by have := rN_lt l4 b4 1; rw [e5] at this; exact this
  have t1 := fun g w h => rtext_l g l false 4 hll w h
  have t2 := fun g w h => rnumber_l g l1 b1 4 (by decide) z1 w h
  have t3 := fun g w h => rnumber_l g l2 b2 4 (by decide) z2 w h
  have t4 := fun g w h => rnumber_l g l3 b3 1 (by decide) z3 w h
  have t5 := fun g w h => rnumber_l g l4 b4 1 (by decide) z4 w h
  rw [e1] at t1
  rw [e2] at t2
  rw [e3] at t3
  rw [e4] at t4
  rw [e5] at t5
  dsimp only at t1 t2 t3 t4 t5
  simp only [show ((4 : Nat) : Int) = 4 from rfl] at t1 t2 t3
  simp only [show ((1 : Nat) : Int) = 1 from rfl] at t4 t5
  have htake : takeR s.data.toList = if okR s.data.toList H (all4 (all3 H)) = true then (((H.id : Int), (H.pa : Int), (H.cl : Int), (all4 (all3 H)).1), 0) else ((0, 0, 0, []), 2) := by
    unfold takeR
    rw [hok, if_neg (show ¬ ((0 : Int) ≠ 0) by decide), hdr_of e1 e2 e3 e4 e5, hH]
  have hst := fun w => rstake_any s hs w
  rw [hok] at hst
  have HT1 := Lib.hid t1
  have HT2 := Lib.hid t2
  have HT3 := Lib.hid t3
  have HT4 := Lib.hid t4
  have HT5 := Lib.hid t5
  have HTK := Lib.hid htake
  have HST := Lib.hid hst
  have HHH := Lib.hid hH
  clear t1 t2 t3 t4 t5 htake hst hH e1 e2 e3 e4 e5 z1 z2 z3 z4 hok
  go_enter Try.func21, Try.ntmps21
  go_wp2_with fail
  refine (HST.out _).mono ?_
  rintro e w1 ⟨rfl, hb1_⟩
  have HZ := Lib.hid (show Blk w1 w.heap.size 40 F0 from (Blk.new w _ _).below hb1_ (by simp))
  have HBL := Lib.hid (show Below w.heap.size w w1 from ((Below.refl _ _).alloc (Nat.le_refl _) _).trans (hb1_.mono (by simp)))
  have hl1 : w.heap.size < w1.heap.size := HZ.out.lt
  clear hb1_
  go_wp2_with fail
  have HR0 := Lib.hid (show RRdr (w1.alloc (.cells #[.string (bs l), .bool false] 77)) w1.heap.size l false from Blk.new w1 _ _)
  have HZ0 := Lib.hid (HZ.out.alloc (.cells #[.string (bs l), .bool false] 77))
  have HB0 := Lib.hid (HBL.out.alloc HBL.out.size (.cells #[.string (bs l), .bool false] 77))
  clear HZ HBL
  revert HR0 HZ0 HB0
  generalize (w1.alloc (.cells #[.string (bs l), .bool false] 77)) = v0
  obtain ⟨G, hG⟩ : ∃ G, G = w1.heap.size := ⟨_, rfl⟩
  rw [← hG] at hl1 ⊢
  clear hG
  intro HR0 HZ0 HB0
  refine (HT1.out G v0 HR0.out).mono ?_
  rintro e v1 ⟨rfl, hr, hg⟩
  have HR1 := Lib.hid hr
  have HZ1 := Lib.hid (HZ0.out.grown hg (by intro e; injection e with e; omega))
  have HB1 := Lib.hid (below_gby HB0.out hg HB0.out.size (by omega))
  clear hr hg HR0 HZ0 HB0 HT1
  go_wp2_with fail
  refine (HT2.out G v1 HR1.out).mono ?_
  rintro e v2 ⟨rfl, hr, hg⟩
  have HR2 := Lib.hid hr
  have HZ2 := Lib.hid (HZ1.out.grown hg (by intro e; injection e with e; omega))
  have HB2 := Lib.hid (below_gby HB1.out hg HB1.out.size (by omega))
  have hgl := HR2.out.lt
  clear hr hg HR1 HZ1 HB1 HT2
  go_wp2_with fail
  have HR3 := Lib.hid (HR2.out.alloc (.cells #[.int .i64 (i : Int), .int .i64 0, .int .i64 0, .slice none 0 0] 40))
  have HZ3 := Lib.hid (HZ2.out.alloc (.cells #[.int .i64 (i : Int), .int .i64 0, .int .i64 0, .slice none 0 0] 40))
  have HB3 := Lib.hid (HB2.out.alloc HB2.out.size (.cells #[.int .i64 (i : Int), .int .i64 0, .int .i64 0, .slice none 0 0] 40))
  have HF3 := Lib.hid (Blk.new v2 40 #[.int .i64 (i : Int), .int .i64 0, .int .i64 0, .slice none 0 0])
  clear HR2 HZ2 HB2
  revert HR3 HZ3 HB3 HF3
  generalize (v2.alloc (.cells #[.int .i64 (i : Int), .int .i64 0, .int .i64 0, .slice none 0 0] 40)) = v3
  obtain ⟨J, hJ⟩ : ∃ J, J = v2.heap.size := ⟨_, rfl⟩
  rw [← hJ] at hgl ⊢
  clear hJ
  intro HR3 HZ3 HB3 HF3
  refine (HT3.out G v3 HR3.out).mono ?_
  rintro e v4 ⟨rfl, hr, hg⟩
  have HR4 := Lib.hid hr
  have HZ4 := Lib.hid (HZ3.out.grown hg (by intro e; injection e with e; omega))
  have HF4 := Lib.hid (HF3.out.grown hg (by intro e; injection e with e; omega))
  have HB4 := Lib.hid (below_gby HB3.out hg HB3.out.size (by omega))
  clear hr hg HR3 HZ3 HB3 HF3 HT3
  have j1 := HF4.out.cell 1
  have g1 := HF4.out.frozen 1
  rw [show (#[Value.int IntKind.i64 (i : Int), .int .i64 0, .int .i64 0, .slice none 0 0] : Array Value)[1]? = some (.int .i64 0) from rfl] at j1
  have HR5 := Lib.hid (HR4.out.far (p := ⟨J, 1, none⟩) (by simp; omega) (.int .i64 (p : Int)))
  have HZ5 := Lib.hid (HZ4.out.far (p := ⟨J, 1, none⟩) (by simp; omega) (.int .i64 (p : Int)))
  have HF5 := Lib.hid (show Blk (v4.setCell ⟨J, 1, none⟩ (.int .i64 (p : Int))) J 40 #[.int .i64 (i : Int), .int .i64 (p : Int), .int .i64 0, .slice none 0 0] from HF4.out.set_ 1 (.int .i64 (p : Int)))
  have HB5 := Lib.hid (HB4.out.setCell (p := ⟨J, 1, none⟩) (by simp; omega) (.int .i64 (p : Int)))
  go_wp2_with fail
  clear HR4 HZ4 HB4 HF4 j1 g1
  revert HR5 HZ5 HB5 HF5
  generalize (v4.setCell ⟨J, 1, none⟩ (.int .i64 (p : Int))) = v5
  intro HR5 HZ5 HF5 HB5
  refine (HT4.out G v5 HR5.out).mono ?_
  rintro e v6 ⟨rfl, hr, hg⟩
  have HR6 := Lib.hid hr
  have HZ6 := Lib.hid (HZ5.out.grown hg (by intro e; injection e with e; omega))
  have HF6 := Lib.hid (HF5.out.grown hg (by intro e; injection e with e; omega))
  have HB6 := Lib.hid (below_gby HB5.out hg HB5.out.size (by omega))
  clear hr hg HR5 HZ5 HB5 HF5 HT4
  have j2 := HF6.out.cell 2
  have g2 := HF6.out.frozen 2
  rw [show (#[Value.int IntKind.i64 (i : Int), .int .i64 (p : Int), .int .i64 0, .slice none 0 0] : Array Value)[2]? = some (.int .i64 0) from rfl] at j2
  have HR7 := Lib.hid (HR6.out.far (p := ⟨J, 2, none⟩) (by simp; omega) (.int .i64 (c : Int)))
  have HZ7 := Lib.hid (HZ6.out.far (p := ⟨J, 2, none⟩) (by simp; omega) (.int .i64 (c : Int)))
  have HF7 := Lib.hid (show Blk (v6.setCell ⟨J, 2, none⟩ (.int .i64 (c : Int))) J 40 #[.int .i64 (i : Int), .int .i64 (p : Int), .int .i64 (c : Int), .slice none 0 0] from HF6.out.set_ 2 (.int .i64 (c : Int)))
  have HB7 := Lib.hid (HB6.out.setCell (p := ⟨J, 2, none⟩) (by simp; omega) (.int .i64 (c : Int)))
  go_wp2_with fail
  clear HR6 HZ6 HB6 HF6 j2 g2
  revert HR7 HZ7 HB7 HF7
  generalize (v6.setCell ⟨J, 2, none⟩ (.int .i64 (c : Int))) = v7
  intro HR7 HZ7 HF7 HB7
  refine (HT5.out G v7 HR7.out).mono ?_
  rintro e v8 ⟨rfl, hr, hg⟩
  have HR8 := Lib.hid hr
  have HZ8 := Lib.hid (HZ7.out.grown hg (by intro e; injection e with e; omega))
  have HF8 := Lib.hid (HF7.out.grown hg (by intro e; injection e with e; omega))
  have HB8 := Lib.hid (below_gby HB7.out hg HB7.out.size (by omega))
  clear hr hg HR7 HZ7 HB7 HF7 HT5
  have hjl := HF8.out.lt
  obtain ⟨s0, hs0⟩ : ∃ s0 : S3, s0 = ⟨l5, b5, []⟩ := ⟨_, rfl⟩
  have hleft := fun k => Nat.le_trans (grp3s_left wh s0 k) (show s0.left.length ≤ maxLen by rw [hs0]; exact z5)
  have hlens := fun k => (show (grp3s wh s0 k).cs.length ≤ 8 * k by have := grp3s_len wh s0 k; rw [hs0] at this ⊢; simpa using this)
  have HLE := Lib.hid hleft
  have HLN := Lib.hid hlens
  have HS0 := Lib.hid hs0
  have HSTART := Lib.hid (show l5 = s0.left ∧ b5 = s0.bad ∧ s0.cs = [] by rw [hs0]; exact ⟨rfl, rfl, rfl⟩)
  clear hs0 hleft hlens
  go_wp2_with fail
  go_loopw [9] (fun vg wr => ∃ (k : Nat) (A : Option Addr) (n cap : Nat), k ≤ 8 ∧ vg = .int .i64 k ∧ n = (grp3s wh s0 k).cs.length ∧ Hid (RRdr wr G (grp3s wh s0 k).left (grp3s wh s0 k).bad) ∧ Hid (Blk wr w.heap.size 40 F0) ∧ Hid (Blk wr J 40 #[.int .i64 (i : Int), .int .i64 (p : Int), .int .i64 (c : Int), .slice A n cap]) ∧ Hid (wr.ownsRow (J + 1) 67 2 (.slice A n cap) n (flatE encR ((grp3s wh s0 k).cs.map mkM))) ∧ Hid (Below w.heap.size w wr)) (fun vg _ => 8 - (intOf vg).toNat)
  case atStart =>
    obtain ⟨q1, q2, q3⟩ := HSTART.out
    exact ⟨0, none, 0, 0, by omega, rfl, by rw [grp3s, q3]; rfl, by rw [grp3s, ← q1, ← q2]; exact HR8, HZ8, HF8, by rw [grp3s, q3]; exact Lib.hid (own_nil _ _ _ _), HB8⟩
  case round =>
    clear HR8 HZ8 HF8 HB8 HSTART
    obtain ⟨k, A, n, cap, hk, rfl, hn, hr, hz, hf, ho, hb⟩ := hrel
    by_cases hlt : k < 8
    · have hstep : grp3s wh s0 (k + 1) = grp3 wh k (grp3s wh s0 k) := rfl
      have hle := HLE.out k
      have hlnk := HLN.out k
      obtain ⟨S, hS⟩ : ∃ S, S = grp3s wh s0 k := ⟨_, rfl⟩
      rw [← hS] at hstep hr ho hn hle hlnk
      by_cases hbit : wh / 2 ^ k % 2 = 0
      · have hst2 : grp3 wh k S = S := by unfold grp3; rw [if_pos hbit]
        have HST := Lib.hid (hstep.trans hst2)
        have HN := Lib.hid hn
        have hb0 := bitI_0 wh k hbit
        clear hst2 hstep hle hlnk hS hn hbit
        go_wp2
        go_roundw
        case rel => exact ⟨k + 1, A, n, cap, by omega, by go_num, by rw [HST.out]; exact HN.out, by rw [HST.out]; exact hr, hz, hf, by rw [HST.out]; exact ho, hb⟩
        case measure => simp [intOf]; omega
      · have hst2 := hstep
        unfold grp3 at hst2
        rw [if_neg hbit] at hst2
        have hno := fun v h => rnumber_l G S.left S.bad 2 (by decide) hle v h
        simp only [show ((2 : Nat) : Int) = 2 from rfl] at hno
        have n2 := rN_lt S.left S.bad 2
        obtain ⟨⟨n0, l', b'⟩, hrn⟩ : ∃ x, rN S.left S.bad 2 = x := ⟨_, rfl⟩
        rw [hrn] at hno hst2 n2
        dsimp only at hno hst2 n2
        have n2' : n0 < 65536 := n2
        have HST := Lib.hid hst2
        have HNO := Lib.hid hno
        have HN := Lib.hid hn
        have hb1 := bitI_1 wh k hbit
        have hgl2 := hr.out.lt
        have hzl := hz.out.lt
        have hsz := hb.out.size
        clear hst2 hstep hle hS hn hbit hno hrn n2
        go_wp2_with fail
        refine (HNO.out wr hr.out).mono ?_
        rintro e v2c ⟨rfl, hr2, hg2⟩
        have HR2 := Lib.hid hr2
        have HZ2 := Lib.hid (hz.out.grown hg2 (by intro e; injection e with e; omega))
        have HF2 := Lib.hid (hf.out.grown hg2 (by intro e; injection e with e; omega))
        have HB2 := Lib.hid (below_gby hb.out hg2 hb.out.size (by omega))
        have HO2 := Lib.hid (own_gby ho.out hg2 (by omega))
        clear hr2 hg2 hr hz hf hb ho HNO hb1
        go_wp2_with fail
        go_loopw [10, 11] (fun v10 v11 wr => ∃ (j : Nat) (A : Option Addr) (n cap : Nat), j ≤ 8 ∧ v11 = .int .i64 j ∧ v10 = .int .i64 ((n0 / 4 ^ j : Nat) : Int) ∧ n = (S.cs ++ digs k n0 j).length ∧ Hid (RRdr wr G l' b') ∧ Hid (Blk wr w.heap.size 40 F0) ∧ Hid (Blk wr J 40 #[.int .i64 (i : Int), .int .i64 (p : Int), .int .i64 (c : Int), .slice A n cap]) ∧ Hid (wr.ownsRow (J + 1) 67 2 (.slice A n cap) n (flatE encR ((S.cs ++ digs k n0 j).map mkM))) ∧ Hid (Below w.heap.size w wr)) (fun _ v11 _ => 8 - (intOf v11).toNat)
        case atStart => exact ⟨0, A, n, cap, by omega, rfl, by rw [Nat.pow_zero, Nat.div_one], by rw [digs, List.append_nil]; exact HN.out, HR2, HZ2, HF2, by rw [digs, List.append_nil]; exact HO2, HB2⟩
        case round =>
          clear HR2 HZ2 HF2 HB2 HO2 HN
          obtain ⟨j, A, n, cap, hj, rfl, rfl, hn, hr, hz, hf, ho, hb⟩ := hrel
          by_cases hjl : j < 8
          · have hdl := digs_len k n0 j
            have hn64 : n ≤ 72 := by rw [hn, List.length_append]; omega
            have hstep : digs k n0 (j + 1) = digs k n0 j ++ if n0 / 4 ^ j % 4 = 0 then [] else [(8 * k + j, n0 / 4 ^ j % 4 == 2)] := rfl
            have hpow : n0 / 4 ^ (j + 1) = n0 / 4 ^ j / 4 := by rw [Nat.pow_succ, Nat.div_div_eq_div_mul]
            have hqle : n0 / 4 ^ j ≤ n0 := Nat.div_le_self _ _
            have HPOW := Lib.hid hpow
            obtain ⟨q, hq⟩ : ∃ q, q = n0 / 4 ^ j := ⟨_, rfl⟩
            rw [← hq] at hstep hqle HPOW ⊢
            obtain ⟨D, hD⟩ : ∃ D, D = digs k n0 j := ⟨_, rfl⟩
            rw [← hD] at hstep hn ho
            have m4 := mod4 q
            have d4 := div4 q
            have HN := Lib.hid hn
            have hq4 : q % 4 < 4 := Nat.mod_lt _ (by decide)
            have d3 := hf.out.cell 3
            rw [show (#[Value.int IntKind.i64 (i : Int), .int .i64 (p : Int), .int .i64 (c : Int), .slice A n cap] : Array Value)[3]? = some (.slice A n cap) from rfl] at d3
            have hgl2 := hr.out.lt
            have hzl := hz.out.lt
            have hfl := hf.out.lt
            have hsz := hb.out.size
            clear hq hD hpow hn hdl
            by_cases q0 : q % 4 = 0
            · rw [q0] at m4
              rw [if_pos q0, List.append_nil] at hstep
              have HSTP := Lib.hid hstep
              clear hstep q0 hq4
              go_wp2
              go_roundw
              case rel => exact ⟨j + 1, A, n, cap, by omega, by go_num, by rw [HPOW.out, Int.natCast_ediv]; rfl, by rw [HSTP.out]; exact HN.out, hr, hz, hf, by rw [HSTP.out]; exact ho, hb⟩
              case measure => simp [intOf]; omega
            · rw [if_neg q0] at hstep
              have hwr : IntKind.i64.wrap (8 * (k : Int) + (j : Int)) = ((8 * k + j : Nat) : Int) := by rw [IntKind.wrap_i64] <;> omega
              have hgt : (0 : Int) < ((q % 4 : Nat) : Int) := by omega
              obtain ⟨ap, hap⟩ : ∃ ap : Int, ap = 8 * (k : Int) + (j : Int) := ⟨_, rfl⟩
              have hap2 : ap = ((8 * k + j : Nat) : Int) := by omega
              go_wp2_with (at_builtin; refine print_append_cells (w0 := wr) (J + 1) rfl _ _ 36 67 _ 2 24 rfl Try.underlying36 infoR rfl (by decide) (by decide) (.slice A n cap) n (flatE encR ((S.cs ++ D).map mkM)) [.int .i64 (8 * (k : Int) + (j : Int)), .string ⟨#[]⟩] rfl rfl rfl (by intro u hu; simp at hu; rcases hu with rfl | rfl <;> rfl) ho.out (Below.refl _ _) (by omega) (by omega) ?_)
              intro v1 w4 hown hb4 hg4 _
              obtain ⟨gr, cap4, rfl, hgr⟩ := own_succ hown
              have HR4 := Lib.hid (hr.out.below hb4 (by omega))
              have HZ4 := Lib.hid (hz.out.below hb4 (by omega))
              have HF4 := Lib.hid (hf.out.below hb4 (by omega))
              have HB4 := Lib.hid (show Below w.heap.size w w4 from hb.out.trans (hb4.mono (by omega)))
              have HO4 := Lib.hid hown
              clear hb4 hg4 hown d3 hr hz hf hb ho
              have d3 := HF4.out.cell 3
              have g3 := HF4.out.frozen 3
              rw [show (#[Value.int IntKind.i64 (i : Int), .int .i64 (p : Int), .int .i64 (c : Int), .slice A n cap] : Array Value)[3]? = some (.slice A n cap) from rfl] at d3
              have HR5 := Lib.hid (HR4.out.far (p := ⟨J, 3, none⟩) (by simp; omega) (.slice (some ⟨gr, 0, none⟩) (n + 1) cap4))
              have HZ5 := Lib.hid (HZ4.out.far (p := ⟨J, 3, none⟩) (by simp; omega) (.slice (some ⟨gr, 0, none⟩) (n + 1) cap4))
              have HF5 := Lib.hid (show Blk (w4.setCell ⟨J, 3, none⟩ (.slice (some ⟨gr, 0, none⟩) (n + 1) cap4)) J 40 #[.int .i64 (i : Int), .int .i64 (p : Int), .int .i64 (c : Int), .slice (some ⟨gr, 0, none⟩) (n + 1) cap4] from HF4.out.set_ 3 (.slice (some ⟨gr, 0, none⟩) (n + 1) cap4))
              have HB5 := Lib.hid (HB4.out.setCell (p := ⟨J, 3, none⟩) (by simp; omega) (.slice (some ⟨gr, 0, none⟩) (n + 1) cap4))
              have ho5 := own_set HO4.out (p := ⟨J, 3, none⟩) (by simp) (.slice (some ⟨gr, 0, none⟩) (n + 1) cap4)
              rw [show flatE encR (List.map mkM S.cs ++ List.map mkM D) ++ [Value.int .i64 (8 * (k : Int) + (j : Int)), .string ⟨#[]⟩] = flatE encR ((S.cs ++ D).map mkM ++ ⟨8 * (k : Int) + (j : Int), bs []⟩ :: []) by rw [List.map_append, flatE_append (List.map mkM S.cs ++ List.map mkM D)]; rfl] at ho5
              rw [← hap, hap2] at ho5
              have HO5 := Lib.hid ho5
              have hnew : ∀ (v : Nat), n + 1 = ((S.cs ++ D) ++ [(8 * k + j, v == 2)]).length := fun v => by rw [List.length_append, ← HN.out]; rfl
              have HNEW := Lib.hid hnew
              clear ho5 hwr hap hap2 hnew hgt
              go_upto_region 20 with fail
              clear HR4 HZ4 HF4 HB4 HO4 d3 g3
              revert HR5 HZ5 HF5 HB5 HO5
              generalize (w4.setCell ⟨J, 3, none⟩ (.slice (some ⟨gr, 0, none⟩) (n + 1) cap4)) = w5
              intro HR5 HZ5 HF5 HB5 HO5
              by_cases q2 : q % 4 = 2
              · rw [q2] at m4 hstep
                have HSTP := Lib.hid hstep
                clear hstep q0 hq4
                have m4b : (q : Int) % 4 = 2 := by omega
                have d3 := HF5.out.cell 3
                rw [show (#[Value.int IntKind.i64 (i : Int), .int .i64 (p : Int), .int .i64 (c : Int), .slice (some ⟨gr, 0, none⟩) (n + 1) cap4] : Array Value)[3]? = some (.slice (some ⟨gr, 0, none⟩) (n + 1) cap4) from rfl] at d3
                have hgrl : gr < w5.heap.size := (HO5.out.lt gr rfl).2
                have c1 := HO5.out.cellAt (n * 2 + 1) (by omega)
                have c2 := HO5.out.frozenAt (n * 2 + 1)
                rw [show n * 2 + 1 = ((S.cs ++ D).map mkM).length * 2 + 1 by rw [List.length_map, ← HN.out]] at c1
                have hget : (flatE encR ((S.cs ++ D).map mkM ++ ⟨((8 * k + j : Nat) : Int), bs []⟩ :: []))[((S.cs ++ D).map mkM).length * 2 + 1]? = some (.string (bs [])) := by
                  rw [flatE_append, List.getElem?_append_right (by rw [flatE_length encR_len]; omega), flatE_length encR_len, show ((S.cs ++ D).map mkM).length * 2 + 1 - ((S.cs ++ D).map mkM).length * 2 = 1 from by omega]
                  rfl
                rw [hget] at c1
                rw [List.length_map, ← HN.out] at c1
                clear hget
                obtain ⟨ho6, hg6⟩ := HO5.out.stored (n * 2 + 1) (.string (bs txt))
                rw [show n * 2 + 1 = ((S.cs ++ D).map mkM).length * 2 + 1 by rw [List.length_map, ← HN.out], set_text] at ho6
                rw [List.length_map, ← HN.out] at ho6
                have HR6 := Lib.hid (HR5.out.far (p := ⟨gr, n * 2 + 1, none⟩) (by simp; omega) (.string (bs txt)))
                have HZ6 := Lib.hid (HZ5.out.far (p := ⟨gr, n * 2 + 1, none⟩) (by simp; omega) (.string (bs txt)))
                have HF6 := Lib.hid (HF5.out.far (p := ⟨gr, n * 2 + 1, none⟩) (by simp; omega) (.string (bs txt)))
                have HB6 := Lib.hid (HB5.out.setCell (p := ⟨gr, n * 2 + 1, none⟩) (by simp; omega) (.string (bs txt)))
                have HO6 := Lib.hid ho6
                clear ho6 hg6
                go_wp2
                go_roundw
                case rel =>
                  refine ⟨j + 1, some ⟨gr, 0, none⟩, n + 1, cap4, by omega, by go_num, by rw [HPOW.out, Int.natCast_ediv]; rfl, by rw [HSTP.out, ← List.append_assoc]; exact HNEW.out 2, HR6, HZ6, HF6, ?_, HB6⟩
                  rw [HSTP.out, ← List.append_assoc, List.map_append]
                  exact HO6
                case measure => simp [intOf]; omega
              · have hq2 : (q % 4 == 2) = false := by rw [beq_eq_false_iff_ne]; exact q2
                rw [hq2] at hstep
                have HSTP := Lib.hid hstep
                have m4b : ¬ (q : Int) % 4 = 2 := by omega
                have m4c : ((q : Int) % 4 == 2) = false := by rw [beq_eq_false_iff_ne]; exact m4b
                have HNE := Lib.hid (show n + 1 = ((S.cs ++ D) ++ [(8 * k + j, false)]).length from HNEW.out 0)
                clear hstep q0 hq4 hq2
                go_wp2
                go_roundw
                case rel =>
                  refine ⟨j + 1, some ⟨gr, 0, none⟩, n + 1, cap4, by omega, by go_num, by rw [HPOW.out, Int.natCast_ediv]; rfl, by rw [HSTP.out, ← List.append_assoc]; exact HNE.out, HR5, HZ5, HF5, ?_, HB5⟩
                  rw [HSTP.out, ← List.append_assoc, List.map_append]
                  exact HO5
                case measure => simp [intOf]; omega
          · obtain rfl : j = 8 := by omega
            go_wp2
            go_roundw
            case rel => exact ⟨k + 1, A, n, cap, by omega, by go_num, by rw [HST.out]; exact hn, by rw [HST.out]; exact hr, hz, hf, by rw [HST.out]; exact ho, hb⟩
            case measure => simp [intOf]; omega
    · obtain rfl : k = 8 := by omega
      rw [show ((8 : Nat) : Int) = 8 from rfl]
      have hleS := HLE.out 8
      have hlnS := HLN.out 8
      obtain ⟨S, hS⟩ : ∃ S, S = grp3s wh s0 8 := ⟨_, rfl⟩
      have hSH : S = all3 H := by rw [hS, HS0.out, ← HHH.out]; rfl
      rw [← hS] at hn hr ho hleS hlnS
      have HSH := Lib.hid hSH
      have HN := Lib.hid hn
      have hn64 : n ≤ 64 := by omega
      clear hS hSH hn hlt HLE HLN HS0 hk hlnS
      go_wp2_with fail
      go_loopw [12] (fun v12 wr => ∃ (j : Nat) (done : List C) (lr : List UInt8) (br : Bool), j ≤ n ∧ v12 = .int .i64 j ∧ done.length = j ∧ lr.length ≤ maxLen ∧ Hid (fill S.cs S.left S.bad = (done ++ (fill (S.cs.drop j) lr br).1, (fill (S.cs.drop j) lr br).2)) ∧ Hid (RRdr wr G lr br) ∧ Hid (Blk wr w.heap.size 40 F0) ∧ Hid (Blk wr J 40 #[.int .i64 (i : Int), .int .i64 (p : Int), .int .i64 (c : Int), .slice A n cap]) ∧ Hid (wr.ownsRow (J + 1) 67 2 (.slice A n cap) n (flatE encR (done.map mkQ ++ (S.cs.drop j).map mkM))) ∧ Hid (Below w.heap.size w wr)) (fun v12 _ => n - (intOf v12).toNat)
      case atStart => exact ⟨0, [], S.left, S.bad, by omega, rfl, rfl, hleS, by rw [List.drop_zero]; exact Lib.hid rfl, hr, hz, hf, by rw [List.drop_zero]; exact ho, hb⟩
      case round =>
        clear hr hz hf ho hb hleS
        obtain ⟨j, done, lr, br, hj, rfl, hdl, hle, hfill, hr, hz, hf, ho, hb⟩ := hrel
        by_cases hlt : j < n
        · have hjl : j < S.cs.length := by rw [← HN.out]; exact hlt
          have hdrop : S.cs.drop j = S.cs[j] :: S.cs.drop (j + 1) := List.drop_eq_getElem_cons hjl
          obtain ⟨⟨at_, t⟩, hc⟩ : ∃ x, S.cs[j]'hjl = x := ⟨_, rfl⟩
          rw [hc] at hdrop
          rw [hdrop] at hfill ho
          obtain ⟨R, hR⟩ : ∃ R, R = S.cs.drop (j + 1) := ⟨_, rfl⟩
          rw [← hR] at hfill ho
          have HRR := Lib.hid hR
          obtain ⟨gr, rfl, hgr⟩ := own_pos ho.out (by omega)
          have d3 := hf.out.cell 3
          have f3 := hf.out.frozen 3
          rw [show (#[Value.int IntKind.i64 (i : Int), .int .i64 (p : Int), .int .i64 (c : Int), .slice (some ⟨gr, 0, none⟩) n cap] : Array Value)[3]? = some (.slice (some ⟨gr, 0, none⟩) n cap) from rfl] at d3
          have c1 := ho.out.cellAt (j * 2 + 1) (by omega)
          have c2 := ho.out.frozenAt (j * 2 + 1)
          have hdl2 : (done.map mkQ).length = j := by rw [List.length_map, hdl]
          have hget := get_text (done.map mkQ) (R.map mkM) (at_ : Int) (if t = true then bs txt else bs [])
          rw [hdl2] at hget
          rw [show List.map mkQ done ++ List.map mkM ((at_, t) :: R) = done.map mkQ ++ ⟨(at_ : Int), if t = true then bs txt else bs []⟩ :: R.map mkM from rfl] at ho c1
          rw [hget] at c1
          have hgl2 := hr.out.lt
          have hzl := hz.out.lt
          have hfl := hf.out.lt
          have hsz := hb.out.size
          have hgrl : gr < wr.heap.size := (ho.out.lt gr rfl).2
          have HDL := Lib.hid hdl
          have HDL2 := Lib.hid hdl2
          clear hget hdrop hc hR hdl hdl2
          cases t
          · have c1' : wr.cell? ⟨gr, j * 2 + 1, none⟩ = some (.string ⟨#[]⟩) := c1
            clear c1
            have hf2 : fill S.cs S.left S.bad = ((done ++ [((at_ : Int), bs [])]) ++ (fill R lr br).1, (fill R lr br).2) := by rw [hfill.out, List.append_assoc]; rfl
            have HF2 := Lib.hid hf2
            have HD1 := Lib.hid (show (done ++ [((at_ : Int), bs [])]).length = j + 1 by rw [List.length_append, HDL.out]; rfl)
            clear hf2 hfill
            go_wp2
            go_roundw
            case rel =>
              refine ⟨j + 1, done ++ [((at_ : Int), bs [])], lr, br, by omega, by go_num, HD1.out, hle, by rw [← HRR.out]; exact HF2, hr, hz, hf, ?_, hb⟩
              rw [← HRR.out, List.map_append, List.append_assoc]
              exact ho
            case measure => simp [intOf]; omega
          · have c1' : wr.cell? ⟨gr, j * 2 + 1, none⟩ = some (.string ⟨#[116, 101, 120, 116]⟩) := c1
            have ho2 : Hid (wr.ownsRow (J + 1) 67 2 (.slice (some ⟨gr, 0, none⟩) n cap) n (flatE encR (done.map mkQ ++ ⟨(at_ : Int), bs txt⟩ :: R.map mkM))) := ho
            clear c1 ho
            have htx := fun v h => rtext_l G lr br 16 hle v h
            simp only [show ((16 : Nat) : Int) = 16 from rfl] at htx
            have hT := rT_le lr br 16
            have hf2 : fill S.cs S.left S.bad = ((done ++ [((at_ : Int), bs (rT lr br 16).1)]) ++ (fill R (rT lr br 16).2.1 (rT lr br 16).2.2).1, (fill R (rT lr br 16).2.1 (rT lr br 16).2.2).2) := by rw [hfill.out, List.append_assoc]; rfl
            obtain ⟨⟨x, l', b'⟩, hrt⟩ : ∃ x, rT lr br 16 = x := ⟨_, rfl⟩
            rw [hrt] at htx hT hf2
            dsimp only at htx hT hf2
            have hle' : l'.length ≤ maxLen := Nat.le_trans hT.2.1 hle
            have HTX := Lib.hid htx
            have HF2 := Lib.hid hf2
            have HD1 := Lib.hid (show (done ++ [((at_ : Int), bs x)]).length = j + 1 by rw [List.length_append, HDL.out]; rfl)
            clear hf2 hfill htx hT hrt
            go_upto_region 27 with fail
            go_region_with (
              go_at_call 36
              refine (HTX.out _ hr.out.drew).mono ?_
              rintro e v2c ⟨rfl, hr2, hg2⟩
              have q1 := hf.out.drew.grown hg2 (by intro e; injection e with e; omega)
              have q2 : v2c.cell? ⟨J, 3, none⟩ = some (.slice (some ⟨gr, 0, none⟩) n cap) := q1.cell 3
              have q3 := q1.frozen 3
              have q4 := own_gby ho2.out.drew hg2 (by omega)
              have q5 := q4.frozenAt (j * 2 + 1)
              have q6 : v2c.cell? ⟨gr, j * 2 + 1, none⟩ = some (.string ⟨#[116, 101, 120, 116]⟩) := by
                have := q4.cellAt (j * 2 + 1) (by omega)
                have hget := get_text (done.map mkQ) (R.map mkM) (at_ : Int) (bs txt)
                rw [HDL2.out] at hget
                rw [this, hget]; rfl)
            all_goals
              have ho6 := (q4.stored (j * 2 + 1) (.string (bs x))).1
              rw [show j * 2 + 1 = (done.map mkQ).length * 2 + 1 by rw [HDL2.out], set_text] at ho6
              rw [HDL2.out] at ho6
              have HR6 := Lib.hid (Blk.far hr2 (p := ⟨gr, j * 2 + 1, none⟩) (by simp; omega) (.string (bs x)))
              have HZ6 := Lib.hid ((hz.out.drew.grown hg2 (by intro e; injection e with e; omega)).far (p := ⟨gr, j * 2 + 1, none⟩) (by simp; omega) (.string (bs x)))
              have HF6 := Lib.hid (q1.far (p := ⟨gr, j * 2 + 1, none⟩) (by simp; omega) (.string (bs x)))
              have HB6 := Lib.hid ((below_gby hb.out.drew hg2 hb.out.drew.size (by omega)).setCell (p := ⟨gr, j * 2 + 1, none⟩) (by simp; omega) (.string (bs x)))
              have HO6 := Lib.hid ho6
              clear ho6 q1 q2 q3 q4 q5 q6 hr2 hg2 hr hz hf hb ho2 d3 f3 c1' c2
              go_wp2
              go_roundw
              case rel =>
                refine ⟨j + 1, done ++ [((at_ : Int), bs x)], l', b', by omega, by go_num, HD1.out, hle', by rw [← HRR.out]; exact HF2, HR6, HZ6, HF6, ?_, HB6⟩
                rw [← HRR.out, List.map_append, List.append_assoc]
                exact HO6
              case measure => simp [intOf]; omega
        · obtain rfl : j = n := by omega
          have hd0 : S.cs.drop j = [] := by rw [HN.out]; exact List.drop_length
          rw [hd0] at hfill ho
          have hfl2 : fill S.cs S.left S.bad = (done, lr, br) := by rw [hfill.out, fill, List.append_nil]
          have hall : all4 (all3 H) = (done, lr, br) := by rw [← HSH.out]; exact hfl2
          have hsm : ∀ c ∈ done, c.2.size ≤ 16 := by
            have := (fill_left S.cs S.left S.bad).2.2
            rw [hfl2] at this; exact this
          have hsz0 : sizedC (done.map mkC) = true := by
            unfold sizedC
            rw [List.all_eq_true]
            intro x hx
            obtain ⟨y, hy, rfl⟩ := List.mem_map.1 hx
            have := hsm y hy
            show decide (y.2.size ≤ maxLen) = true
            rw [decide_eq_true_eq]
            unfold maxLen
            omega
          obtain ⟨kk, hkk⟩ := refput_ok (i : Int) (p : Int) (c : Int) (done.map mkC) (by rw [List.length_map, hdl]; unfold maxLen; omega) hsz0
          replace hkk := hkk kk (Nat.le_refl _)
          dsimp only at hkk
          rw [prs_mk] at hkk
          have hqq : done.map mkQ = (done.map mkC).map toR := by rw [List.map_map]; rfl
          obtain ⟨⟨u, g⟩, hug⟩ : ∃ x, putR (i : Int) (p : Int) (c : Int) done = x := ⟨_, rfl⟩
          rw [hug] at hkk
          rw [List.map_nil, List.append_nil, hqq] at ho
          have hl : ((done.map mkC).map toR).length = j := by rw [List.length_map, List.length_map, hdl]
          have hown : ownQ wr (J + 1) (.slice A j cap) ((done.map mkC).map toR) := by
            show World.ownsRow _ _ _ _ _ _ _
            rw [hl]; exact ho.out
          obtain ⟨A2, c2, he, hle2, hC⟩ := Kd.R_reads (ownQ_R hown)
          injection he with e1 e2 e3
          rw [← e1] at hC
          rw [← e3] at hle2
          have hput := rootcellarref10_Put.calls kk i p c A cap ((done.map mkC).map toR) u g wr hC hle2 hkk
          rw [hl] at hput
          have hpl : putL2 (i : Int) (p : Int) (c : Int) done = (u.data.toList, g) := by
            unfold putL2
            unfold putR at hug
            by_cases hf : frB (i : Int) (p : Int) (c : Int) done = true
            · rw [if_pos hf] at hug ⊢; injection hug with e1 e2; rw [← e1, ← e2, bs_list]
            · rw [if_neg hf] at hug ⊢; injection hug with e1 e2; rw [← e1, ← e2, bs_list]
          have hokr : okR s.data.toList H (all4 (all3 H)) = (!br && ((u.data.toList, g) == (s.data.toList, (0 : Int)))) := by
            unfold okR
            rw [hall, ← HHH.out]
            show (!br && (putL2 (i : Int) (p : Int) (c : Int) done == (s.data.toList, 0))) = _
            rw [hpl]
          have HOK := Lib.hid hokr
          have HALL := Lib.hid hall
          have HPUT := Lib.hid hput
          have HQQ := Lib.hid (show done.map mkQ = (done.map mkC).map toR from hqq)
          have HL := Lib.hid hl
          have hgl2 := hr.out.lt
          have hzl := hz.out.lt
          have hfl := hf.out.lt
          have hsz := hb.out.size
          clear hokr hall hput hqq hl hpl hkk hug hown hC e1 e2 e3 hle2 hsz0 hsm hfl2 hd0 hfill hlt hdl
          have d0 := hf.out.cell 0
          have d1 := hf.out.cell 1
          have d2 := hf.out.cell 2
          have d3 := hf.out.cell 3
          rw [show (#[Value.int IntKind.i64 (i : Int), .int .i64 (p : Int), .int .i64 (c : Int), .slice A j cap] : Array Value)[0]? = some (.int .i64 (i : Int)) from rfl] at d0
          rw [show (#[Value.int IntKind.i64 (i : Int), .int .i64 (p : Int), .int .i64 (c : Int), .slice A j cap] : Array Value)[1]? = some (.int .i64 (p : Int)) from rfl] at d1
          rw [show (#[Value.int IntKind.i64 (i : Int), .int .i64 (p : Int), .int .i64 (c : Int), .slice A j cap] : Array Value)[2]? = some (.int .i64 (c : Int)) from rfl] at d2
          rw [show (#[Value.int IntKind.i64 (i : Int), .int .i64 (p : Int), .int .i64 (c : Int), .slice A j cap] : Array Value)[3]? = some (.slice A j cap) from rfl] at d3
          go_wp2_with fail
          refine HPUT.out.mono ?_
          rintro e w3 ⟨rfl, hb3⟩
          have HR3 := Lib.hid (hr.out.below hb3 hr.out.lt)
          have HZ3 := Lib.hid (hz.out.below hb3 hz.out.lt)
          have HF3 := Lib.hid (hf.out.below hb3 hf.out.lt)
          have HB3 := Lib.hid (hb.out.trans (hb3.mono hb.out.size))
          have HO3 := Lib.hid (pw_own_below ho.out hb3)
          clear hb3 hz hf hb ho hr d0 d1 d2 d3
          have c0 := HZ3.out.cell 0
          have c1 := HZ3.out.cell 1
          have c2 := HZ3.out.cell 2
          have c3 := HZ3.out.cell 3
          have f0 := HZ3.out.frozen 0
          have f1 := HZ3.out.frozen 1
          have f2 := HZ3.out.frozen 2
          have f3 := HZ3.out.frozen 3
          rw [show F0[0]? = some (.int .i64 0) from rfl] at c0
          rw [show F0[1]? = some (.int .i64 0) from rfl] at c1
          rw [show F0[2]? = some (.int .i64 0) from rfl] at c2
          rw [show F0[3]? = some (.slice none 0 0) from rfl] at c3
          have d0 := HF3.out.cell 0
          have d1 := HF3.out.cell 1
          have d2 := HF3.out.cell 2
          have d3 := HF3.out.cell 3
          rw [show (#[Value.int IntKind.i64 (i : Int), .int .i64 (p : Int), .int .i64 (c : Int), .slice A j cap] : Array Value)[0]? = some (.int .i64 (i : Int)) from rfl] at d0
          rw [show (#[Value.int IntKind.i64 (i : Int), .int .i64 (p : Int), .int .i64 (c : Int), .slice A j cap] : Array Value)[1]? = some (.int .i64 (p : Int)) from rfl] at d1
          rw [show (#[Value.int IntKind.i64 (i : Int), .int .i64 (p : Int), .int .i64 (c : Int), .slice A j cap] : Array Value)[2]? = some (.int .i64 (c : Int)) from rfl] at d2
          rw [show (#[Value.int IntKind.i64 (i : Int), .int .i64 (p : Int), .int .i64 (c : Int), .slice A j cap] : Array Value)[3]? = some (.slice A j cap) from rfl] at d3
          have b1 := HR3.out.cell 1
          rw [show (#[Value.string (bs lr), .bool br] : Array Value)[1]? = some (.bool br) from rfl] at b1
          have FAIL : Hid (okR s.data.toList H (all4 (all3 H)) = false) → Hid (takeR s.data.toList = ((0, 0, 0, []), 2)) := fun h => Lib.hid (by have := HTK.out; rw [h.out, if_neg (by decide)] at this; exact this)
          by_cases hgood : (!br && ((u.data.toList, g) == (s.data.toList, (0 : Int)))) = true
          · have ht_ := HTK.out
            rw [HOK.out, hgood, if_pos rfl, HALL.out, ← HHH.out] at ht_
            have hbr : br = false := by cases br; rfl; cases hgood
            subst hbr
            have hpe : (u.data.toList, g) = (s.data.toList, (0 : Int)) := by simpa using hgood
            injection hpe with he1 he2
            have hus : u = s := by rw [← bs_data u, ← bs_data s, he1]
            subst hus
            subst he2
            have HT_ := Lib.hid ht_
            clear ht_ hgood he1
            go_wp2_with fail
            rw [HT_.out]
            refine bodyPost_ret (results_row_tmp rfl _ _ w.heap.size _ _ _ _ rfl ((((HZ3.out.set_ 0 (.int .i64 (i : Int))).set_ 1 (.int .i64 (p : Int))).set_ 2 (.int .i64 (c : Int))).set_ 3 (.slice A j cap)) Try.underlying40 rfl (by rw [flR_info]; rfl)) rfl ?_
            refine ⟨.slice A j cap, rfl, ?_, ?_⟩
            · show World.ownsRow _ _ _ _ _ (List.map mkQ done).length (flatE encR (List.map mkQ done))
              rw [HQQ.out, HL.out]
              refine own_weaken (base := J + 1) ?_ (by omega)
              exact own_set (own_set (own_set (own_set HO3.out (p := ⟨w.heap.size, 0, none⟩) (by simp; omega) _) (p := ⟨w.heap.size, 1, none⟩) (by simp; omega) _) (p := ⟨w.heap.size, 2, none⟩) (by simp; omega) _) (p := ⟨w.heap.size, 3, none⟩) (by simp; omega) _
            · repeat (refine below_set ?_ (Nat.le_refl _))
              exact HB3.out
          · have HT_ := FAIL (Lib.hid (by rw [HOK.out]; exact Bool.not_eq_true _ ▸ hgood))
            clear FAIL HTK HOK
            by_cases hbr : br = true
            · subst hbr
              clear hgood
              go_wp2_with fail
              rw [HT_.out]
              refine bodyPost_ret (results_row_tmp rfl _ _ w.heap.size _ _ _ _ rfl ((((HZ3.out.set_ 0 (.int .i64 0)).set_ 1 (.int .i64 0)).set_ 2 (.int .i64 0)).set_ 3 (.slice none 0 0)) Try.underlying40 rfl (by rw [flR_info]; rfl)) rfl ?_
              refine ⟨_, rfl, own_nil _ _ _ _, ?_⟩
              repeat (refine below_set ?_ (Nat.le_refl _))
              exact HB3.out
            · have hbr : br = false := by simpa using hbr
              subst hbr
              by_cases hg0 : g = 0
              · subst hg0
                have hus : u ≠ s := fun e => hgood (by rw [e]; simp)
                have hq : (u.toList == s.toList) = false := by rw [beq_eq_false_iff_ne]; exact fun e => hus (bytes_ext e)
                clear hgood hus
                go_wp2_with fail
                rw [HT_.out]
                refine bodyPost_ret (results_row_tmp rfl _ _ w.heap.size _ _ _ _ rfl ((((HZ3.out.set_ 0 (.int .i64 0)).set_ 1 (.int .i64 0)).set_ 2 (.int .i64 0)).set_ 3 (.slice none 0 0)) Try.underlying40 rfl (by rw [flR_info]; rfl)) rfl ?_
                refine ⟨_, rfl, own_nil _ _ _ _, ?_⟩
                repeat (refine below_set ?_ (Nat.le_refl _))
                exact HB3.out
              · have hg1 : (g == 0) = false := by simpa using hg0
                have hg2 : (g != 0) = true := by simpa using hg0
                clear hgood
                go_wp2_with fail
                rw [HT_.out]
                refine bodyPost_ret (results_row_tmp rfl _ _ w.heap.size _ _ _ _ rfl ((((HZ3.out.set_ 0 (.int .i64 0)).set_ 1 (.int .i64 0)).set_ 2 (.int .i64 0)).set_ 3 (.slice none 0 0)) Try.underlying40 rfl (by rw [flR_info]; rfl)) rfl ?_
                refine ⟨_, rfl, own_nil _ _ _ _, ?_⟩
                repeat (refine below_set ?_ (Nat.le_refl _))
                exact HB3.out
set_option maxRecDepth 100000 in
theorem rtake_err (s : ByteArray) (hs : s.size ≤ maxLen) (w : World) (hne : (tk s.data.toList).2 ≠ 0) :
    Calls Try.prog 21 #[.string s] w fun e w' => ∃ v4_ : Value, e = .returned (.tuple #[.agg #[.int .i64 (takeR s.data.toList).1.1, .int .i64 (takeR s.data.toList).1.2.1, .int .i64 (takeR s.data.toList).1.2.2.1, v4_], .int .i64 (takeR s.data.toList).2]) ∧ ownQ w' w.heap.size v4_ ((takeR s.data.toList).1.2.2.2.map mkQ) ∧ Below w.heap.size w w' := by
  have htake : takeR s.data.toList = ((0, 0, 0, []), (tk s.data.toList).2) := by unfold takeR; rw [if_pos hne]
  have hb0 : ((tk s.data.toList).2 == 0) = false := by simpa using hne
  have hb1 : ((tk s.data.toList).2 != 0) = true := by simpa using hne
  rw [htake]
  clear htake
  generalize ht : (tk s.data.toList).2 = t at hne hb0 hb1 ⊢
  have HT := Lib.hid ht
  clear ht
  have hst := fun w => rstake_any s hs w
  rw [HT.out] at hst
  have HST := Lib.hid hst
  clear hst
  go_enter Try.func21, Try.ntmps21
  go_wp2_with fail
  refine (HST.out _).mono ?_
  rintro e w1 ⟨rfl, hb1_⟩
  have hk : Blk w1 w.heap.size 40 #[.int .i64 0, .int .i64 0, .int .i64 0, .slice none 0 0] := (Blk.new w _ _).below hb1_ (by simp)
  have hbel : Below w.heap.size w w1 := ((Below.refl _ _).alloc (Nat.le_refl _) _).trans (hb1_.mono (by simp))
  have c0 := hk.cell 0
  have c1 := hk.cell 1
  have c2 := hk.cell 2
  have c3 := hk.cell 3
  have f0 := hk.frozen 0
  have f1 := hk.frozen 1
  have f2 := hk.frozen 2
  have f3 := hk.frozen 3
  rw [show (#[.int .i64 0, .int .i64 0, .int .i64 0, .slice none 0 0] : Array Value)[0]? = some (.int .i64 0) from rfl] at c0
  rw [show (#[.int .i64 0, .int .i64 0, .int .i64 0, .slice none 0 0] : Array Value)[1]? = some (.int .i64 0) from rfl] at c1
  rw [show (#[.int .i64 0, .int .i64 0, .int .i64 0, .slice none 0 0] : Array Value)[2]? = some (.int .i64 0) from rfl] at c2
  rw [show (#[.int .i64 0, .int .i64 0, .int .i64 0, .slice none 0 0] : Array Value)[3]? = some (.slice none 0 0) from rfl] at c3
  have HBL := Lib.hid hbel
  have HK := Lib.hid hk
  clear hbel hb1_ hk
  go_wp2_with fail
  have h3 := (((HK.out.set_ 0 (.int .i64 0)).set_ 1 (.int .i64 0)).set_ 2 (.int .i64 0)).set_ 3 (.slice none 0 0)
  refine bodyPost_ret (results_row_tmp rfl _ _ w.heap.size _ _ _ _ rfl h3 Try.underlying40 rfl (by rw [flR_info]; rfl)) rfl ?_
  refine ⟨_, rfl, own_nil _ _ _ _, ?_⟩
  repeat (refine below_set ?_ (Nat.le_refl _))
  exact HBL.out
def rootcellarref10_Take.f (a0 : ByteArray) : Option (Int × Int × Int × (List SR) × Int) := if a0.size ≤ maxLen then some ((takeR a0.data.toList).1.1, (takeR a0.data.toList).1.2.1, (takeR a0.data.toList).1.2.2.1, (takeR a0.data.toList).1.2.2.2.map mkQ, (takeR a0.data.toList).2) else none
theorem rootcellarref10_Take.calls (a0 : ByteArray) (r1 : Int) (r2 : Int) (r3 : Int) (r4 : List SR) (r5 : Int) (w : World) (h : rootcellarref10_Take.f a0 = some (r1, r2, r3, r4, r5)) :
    Calls Try.prog 21 #[.string a0] w fun e w' => ∃ v3_ : Value, e = .returned (.tuple #[.agg #[.int .i64 r1, .int .i64 r2, .int .i64 r3, v3_], .int .i64 r5]) ∧ Kd.R kR 67 w' w.heap.size (fun _ => True) v3_ r4 ∧ Below w.heap.size w w' := by
  unfold rootcellarref10_Take.f at h
  by_cases hs : a0.size ≤ maxLen
  · rw [if_pos hs] at h
    have h := Option.some.inj h
    simp only [Prod.mk.injEq] at h
    obtain ⟨rfl, rfl, rfl, rfl, rfl⟩ := h
    have hmain : Calls Try.prog 21 #[.string a0] w fun e w' => ∃ v4_ : Value, e = .returned (.tuple #[.agg #[.int .i64 (takeR a0.data.toList).1.1, .int .i64 (takeR a0.data.toList).1.2.1, .int .i64 (takeR a0.data.toList).1.2.2.1, v4_], .int .i64 (takeR a0.data.toList).2]) ∧ ownQ w' w.heap.size v4_ ((takeR a0.data.toList).1.2.2.2.map mkQ) ∧ Below w.heap.size w w' := by
      by_cases hne : (tk a0.data.toList).2 = 0
      · have hl := tk_length a0.data.toList
        rw [size_list] at hl
        exact rtake_ok a0 hs w (tk a0.data.toList).1 (Prod.ext rfl hne) (Nat.le_trans hl hs) _ rfl
      · exact rtake_err a0 hs w hne
    refine hmain.mono ?_
    rintro e w' ⟨v, he, ho, hb⟩
    exact ⟨v, he, ownQ_R ho, hb⟩
  · rw [if_neg hs] at h; cases h
end Go.Proofs.Ytolpnbeepiblkaa.Pr
