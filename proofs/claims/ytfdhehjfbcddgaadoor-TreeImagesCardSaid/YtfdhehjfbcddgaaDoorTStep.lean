/- step.Right, and slices.Clone of nodes. Conditions: the text is no longer than a million; the tables of unicode/utf8 lie in memory; the nodes are no more than a million. -/
import Derived.Test.YtfdhehjfbcddgaaDoorLRight
import Derived.Lib.Hide
import Derived.Lib.LazyBuf
namespace Go.Proofs.YtfdhehjfbcddgaaDoor.Pr
open Go.RowKit Go.Proofs.YtfdhehjfbcddgaaDoorW.PrintWords Go.Proofs.YtfdhehjfbcddgaaDoorW.PrintLast Go.Proofs.YtfdhehjfbcddgaaDoor
set_option linter.unusedVariables false
/-- a step -/
structure St where
  kind : Int
  a : Int
  b : Int
  n : Int
  text : ByteArray
def encS (s : St) : List Value := [.int .i64 s.kind, .int .i64 s.a, .int .i64 s.b, .int .u64 s.n, .string s.text]
theorem encS_len (x : St) : (encS x).length = 5 := rfl
def valS (s : St) : Value := .agg #[.int .i64 s.kind, .int .i64 s.a, .int .i64 s.b, .int .u64 s.n, .string s.text]
def numB (n : Int) : Bool := decide (0 ≤ n) && decide (n ≤ 2147483647)
def stepB (s : St) : Bool := if 0 < s.text.size ∧ (s.kind ≠ 1 ∨ labelB s.text = false) then false else decide (1 ≤ s.kind) && (decide (s.kind ≤ 8) && (numB s.a && numB s.b))
theorem size_empty (s : ByteArray) : s.toList.isEmpty = decide (s.size = 0) := by
  have hte : s.toList.length = s.size := by
    rw [ByteArray.toList_eq, Array.length_toList]; rfl
  cases hh : s.toList with
  | nil => rw [hh, List.length_nil] at hte; rw [← hte]; rfl
  | cons a b => rw [hh, List.length_cons] at hte; rw [← hte]; rfl
set_option maxRecDepth 100000 in
theorem number_any (n : Int) (w : World) : Calls Tryd.prog 65 #[.int .i64 n] w fun e w' => e = .returned (.bool (numB n)) ∧ Below w.heap.size w w' := by
  unfold numB
  by_cases h0 : 0 ≤ n
  · by_cases h1 : n ≤ 2147483647
    · rw [decide_eq_true h0, decide_eq_true h1]
      go_enter Tryd.func65, Tryd.ntmps65
      go_wp2
      go_ret
      exact ⟨rfl, Below.refl _ _⟩
    · rw [decide_eq_true h0, decide_eq_false h1]
      go_enter Tryd.func65, Tryd.ntmps65
      go_wp2
      go_ret
      exact ⟨rfl, Below.refl _ _⟩
  · rw [decide_eq_false h0]
    go_enter Tryd.func65, Tryd.ntmps65
    go_wp2
    go_ret
    exact ⟨by simp, Below.refl _ _⟩
set_option maxRecDepth 100000 in
set_option maxHeartbeats 4000000 in
theorem sright_any (s : St) (w : World) (hs : s.text.size ≤ 1000000) (hT : Tabs w) :
    Calls Tryd.prog 40 #[valS s] w fun e w' => e = .returned (.bool (stepB s)) ∧ Below w.heap.size w w' := by
  obtain ⟨k, a, b, n, t⟩ := s
  unfold valS
  dsimp only at hs ⊢
  have HT := Lib.hid hT
  have hb0 : Below w.heap.size w (w.alloc (.cells #[.int .i64 k, .int .i64 a, .int .i64 b, .int .u64 n, .string t] 62)) := (Below.refl _ _).alloc (Nat.le_refl _) _
  have hk := Blk.new w 62 #[.int .i64 k, .int .i64 a, .int .i64 b, .int .u64 n, .string t]
  have hlr := right_any t _ hs (hT.below hb0)
  have hem := size_empty t
  obtain ⟨L, hL⟩ : ∃ L, labelB t = L := ⟨_, rfl⟩
  rw [hL] at hlr
  have HLR := Lib.hid hlr
  have HK := Lib.hid hk
  have HB0 := Lib.hid hb0
  have HSB := Lib.hid (show stepB ⟨k, a, b, n, t⟩ = if 0 < t.size ∧ (k ≠ 1 ∨ L = false) then false else decide (1 ≤ k) && (decide (k ≤ 8) && (numB a && numB b)) by unfold stepB; rw [hL])
  generalize stepB ⟨k, a, b, n, t⟩ = SB at HSB ⊢
  obtain ⟨na, hna⟩ : ∃ na, numB a = na := ⟨_, rfl⟩
  obtain ⟨nb, hnb⟩ : ∃ nb, numB b = nb := ⟨_, rfl⟩
  have hca := fun w => number_any a w
  have hcb := fun w => number_any b w
  rw [hna] at hca HSB
  rw [hnb] at hcb HSB
  have HCA := Lib.hid hca
  have HCB := Lib.hid hcb
  clear hT hb0 hk hlr hL hna hnb hca hcb
  by_cases h0 : t.size = 0
  · rw [decide_eq_true h0] at hem
    have hsb := HSB.out
    rw [if_neg (by omega)] at hsb
    subst hsb
    clear HSB HLR HT
    go_enter Tryd.func40, Tryd.ntmps40
    by_cases h1 : 1 ≤ k
    · by_cases h8 : k ≤ 8
      · rw [decide_eq_true h1, decide_eq_true h8, Bool.true_and, Bool.true_and]
        go_wp2_with fail
        refine (HCA.out _).mono ?_
        rintro e wa ⟨rfl, hba⟩
        have HBA := Lib.hid (HB0.out.trans (hba.mono HB0.out.size))
        have hka := HK.out.below hba HK.out.lt
        have c2 := (hka.cell 2).trans rfl
        clear hba hka HCA
        cases na with
        | false =>
          go_wp2_with fail
          go_ret
          exact ⟨rfl, HBA.out⟩
        | true =>
          go_wp2_with fail
          refine (HCB.out _).mono ?_
          rintro e wb ⟨rfl, hbb⟩
          have HBB := Lib.hid (HBA.out.trans (hbb.mono HBA.out.size))
          clear hbb HBA c2 HCB
          go_wp2_with fail
          go_ret
          exact ⟨rfl, HBB.out⟩
      · rw [decide_eq_true h1, decide_eq_false h8, Bool.true_and, Bool.false_and]
        go_wp2_with fail
        go_ret
        exact ⟨rfl, HB0.out⟩
    · rw [decide_eq_false h1, Bool.false_and]
      go_wp2_with fail
      go_ret
      exact ⟨rfl, HB0.out⟩
  · rw [decide_eq_false h0] at hem
    by_cases hk1 : k = 1
    · subst hk1
      cases L with
      | false =>
        have hsb := HSB.out
        rw [if_pos ⟨by omega, .inr rfl⟩] at hsb
        subst hsb
        clear HSB HT
        go_enter Tryd.func40, Tryd.ntmps40
        go_wp2_with fail
        refine HLR.out.mono ?_
        rintro e w1 ⟨rfl, hb1⟩
        have HB1 := Lib.hid (HB0.out.trans (hb1.mono HB0.out.size))
        clear hb1
        go_wp2_with fail
        go_ret
        exact ⟨rfl, HB1.out⟩
      | true =>
        have hsb := HSB.out
        rw [if_neg (by simp)] at hsb
        rw [decide_eq_true (show (1 : Int) ≤ 1 by decide), decide_eq_true (show (1 : Int) ≤ 8 by decide), Bool.true_and, Bool.true_and] at hsb
        subst hsb
        clear HSB HT
        go_enter Tryd.func40, Tryd.ntmps40
        go_wp2_with fail
        refine HLR.out.mono ?_
        rintro e w1 ⟨rfl, hb1⟩
        have HB1 := Lib.hid (HB0.out.trans (hb1.mono HB0.out.size))
        have hk1 := HK.out.below hb1 HK.out.lt
        have c0 := (hk1.cell 0).trans rfl
        have c1 := (hk1.cell 1).trans rfl
        have HK1 := Lib.hid hk1
        clear hb1 hk1 HLR HB0
        go_wp2_with fail
        refine (HCA.out _).mono ?_
        rintro e wa ⟨rfl, hba⟩
        have HBA := Lib.hid (HB1.out.trans (hba.mono HB1.out.size))
        have hka := HK1.out.below hba HK1.out.lt
        have c2 := (hka.cell 2).trans rfl
        clear hba hka HCA
        cases na with
        | false =>
          go_wp2_with fail
          go_ret
          exact ⟨rfl, HBA.out⟩
        | true =>
          go_wp2_with fail
          refine (HCB.out _).mono ?_
          rintro e wb ⟨rfl, hbb⟩
          have HBB := Lib.hid (HBA.out.trans (hbb.mono HBA.out.size))
          clear hbb HBA c2 HCB
          go_wp2_with fail
          go_ret
          exact ⟨rfl, HBB.out⟩
    · have hsb := HSB.out
      rw [if_pos ⟨by omega, .inl hk1⟩] at hsb
      subst hsb
      clear HSB HT HLR
      go_enter Tryd.func40, Tryd.ntmps40
      go_wp2_with fail
      go_ret
      exact ⟨rfl, HB0.out⟩
set_option maxRecDepth 100000 in
theorem tclone_any (A : Option Addr) (cap : Nat) (l : List Nd) (w : World) (hr : NodesAt w A l) (hl : l.length ≤ 1000000) :
    Calls Tryd.prog 66 #[.slice A l.length cap] w fun e w' => (∃ v, e = .returned v ∧ w'.ownsRow w.heap.size 42 6 v l.length (flatE encN l)) ∧ Below w.heap.size w w' := by
  have q : ∀ (w : World) (a : Option Addr) (n c : Nat), (binOp .eql 25 (.slice a n c) (.slice none 0 0)).run Tryd.prog w = .ok (.bool a.isNone) w := fun w a n c => run_eql_slice_nil w 25 42 a n c Tryd.underlying25
  cases A with
  | none =>
    have hl0 : l = [] := by
      rcases l with _ | ⟨x, l⟩
      · rfl
      · obtain ⟨b, off, hA, _⟩ := hr (by simp)
        cases hA
    subst hl0
    rw [List.length_nil]
    go_enter Tryd.func66, Tryd.ntmps66
    go_wp2
    go_ret
    exact ⟨⟨_, rfl, own_nil _ _ _ _⟩, Below.refl _ _⟩
  | some ad =>
    have hb0 : Below w.heap.size w (w.alloc (.cells #[] 42)) := (Below.refl _ _).alloc (Nat.le_refl _) _
    have hown0 : (w.alloc (.cells #[] 42)).ownsRow w.heap.size 42 6 (.slice (some ⟨w.heap.size, 0, none⟩) 0 0) 0 [] := ⟨rfl, .inr ⟨w.heap.size, 0, #[], rfl, Nat.le_refl _, Blk.new _ _ _, Nat.le_refl _, by simp [maxLen], rfl, rfl⟩⟩
    have hone : ∀ u ∈ flatE encN l, u.oneCell' = true := flatE_one (fun x u hu => by simp [encN] at hu; rcases hu with rfl | rfl | rfl | rfl | rfl | rfl <;> rfl) l
    have hnews : ∀ j u, (flatE encN l)[j]? = some u → (w.alloc (.cells #[] 42)).cell? (ad.add j) = some u := by
      intro j u hu
      have hp : 0 < l.length := by
        have := (List.getElem?_eq_some_iff.1 hu).1
        rw [flatE_length encN_len] at this
        omega
      obtain ⟨b, off, he, ⟨cs, fr, ho⟩, hc⟩ := hr.below hb0 hp
      injection he with he
      subst he
      rw [show (⟨b, off, none⟩ : Addr).add j = ⟨b, off + j, none⟩ by unfold Addr.add; split <;> simp_all]
      exact hc j u hu
    have hlen := flatE_length encN_len l
    obtain ⟨n, hn⟩ : ∃ n, l.length = n := ⟨_, rfl⟩
    rw [hn] at hl hlen ⊢
    obtain ⟨i0, hi0, hzz⟩ := Option.map_eq_some_iff.1 (show (Tryd.prog.info? 42).map (fun i => (i.zero, i.size, i.bytes)) = some (some (.agg #[.int .i64 0, .int .i64 0, .string ⟨#[]⟩, .int .u64 0, .bool false, .bool false]), 6, 48) by kernel_rfl)
    simp only [Prod.mk.injEq] at hzz
    obtain ⟨hz0, hz1, hz2⟩ := hzz
    have HOWN := Lib.hid hown0
    have HONE := Lib.hid hone
    have HNEWS := Lib.hid hnews
    have HLEN := Lib.hid hlen
    clear hown0 hone hnews hlen hr hn
    go_enter Tryd.func66, Tryd.ntmps66
    go_wp2_with (at_builtin; refine wpList_append_own _ rfl _ _ 25 rfl w.heap.size 42 i0 _ 6 48 Tryd.underlying25 hi0 hz0 hz1 hz2 rfl (by decide) (.slice (some ⟨w.heap.size, 0, none⟩) 0 0) 0 [] rfl HOWN.out ad n cap (flatE encN l) rfl HLEN.out HNEWS.out HONE.out (by unfold maxLen; omega) (by omega) (by simp) ?_)
    intro v1 w1 hown hg _
    have hb1 : Below w.heap.size w w1 := pw_below_grown hb0 _ (by simp) hg (fun k hk => by simp [Value.ownBlock] at hk; omega)
    have HO := Lib.hid hown
    have HB := Lib.hid hb1
    clear hown hg hb1 hb0
    go_wp2
    go_ret
    refine ⟨⟨_, rfl, ?_⟩, HB.out⟩
    exact HO.out
end Go.Proofs.YtfdhehjfbcddgaaDoor.Pr
