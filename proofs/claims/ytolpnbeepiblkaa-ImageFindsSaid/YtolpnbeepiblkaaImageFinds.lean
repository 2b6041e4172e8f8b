/- The walk of rootcellarlaw10.ImageFinds: it returns true whatever is handed in; nothing that was there is turned. Conditions: the slice's cells lie, the numbers are those of their kinds. -/
import Derived.Test.YtolpnbeepiblkaaSealC
import Derived.Test.YtolpnbeepiblkaaHBase
import Derived.Test.YtolpnbeepiblkaaCellZero
import Derived.Test.YtolpnbeepiblkaaShown10
import Derived.Test.YtolpnbeepiblkaaApartP
namespace Go.Proofs.Ytolpnbeepiblkaa
open Go.RowKit
theorem bit_and (q k : Nat) (h : q < 4294967296) : bits .and .u32 ((q : Int) / 2 ^ k) 1 = ((q / 2 ^ k % 2 : Nat) : Int) := by
  have e : (q : Int) / 2 ^ k = ((q / 2 ^ k : Nat) : Int) := by rw [Int.natCast_ediv, Int.natCast_pow]; rfl
  have := u32_and_nat (q / 2 ^ k) 1 (Nat.lt_of_le_of_lt (Nat.div_le_self _ _) h) (by omega)
  rw [Nat.and_one_is_mod] at this
  rw [e]; exact this
theorem pow8 (n : Nat) : (UInt8.ofNat (2 ^ (n % 8))).toNat = 2 ^ (n % 8) := by
  have h : n % 8 < 8 := Nat.mod_lt _ (by decide)
  have h2 : 2 ^ (n % 8) < 2 ^ 8 := Nat.pow_lt_pow_right (by decide) h
  rw [UInt8.toNat_ofNat']
  exact Nat.mod_eq_of_lt h2
theorem pow8_int (n : Nat) : (2 : Int) ^ (n % 8) % 256 = ((2 ^ (n % 8) : Nat) : Int) := by
  have h : n % 8 < 8 := Nat.mod_lt _ (by decide)
  have h2 : 2 ^ (n % 8) < 2 ^ 8 := Nat.pow_lt_pow_right (by decide) h
  have e : (2 : Int) ^ (n % 8) = ((2 ^ (n % 8) : Nat) : Int) := by rw [Int.natCast_pow]; rfl
  rw [e]
  clear e
  generalize (2 : Nat) ^ (n % 8) = x at h2 ⊢
  omega
/-- taken just if the register comes to one number -/
theorem tk_reg (l : List UInt8) (h : ¬ l.length < 4) : tk l = if Crc.reg Crc.ones l = Crc.Mn 32 Crc.ones then (l.take (l.length - 4), 0) else ([], 9) := by
  have hs : l.take (l.length - 4) ++ l.drop (l.length - 4) = l := List.take_append_drop _ _
  have hd : (l.drop (l.length - 4)).length = 4 := by rw [List.length_drop]; omega
  obtain ⟨a, b, c, d, hq⟩ : ∃ a b c d, l.drop (l.length - 4) = [a, b, c, d] := by
    match l.drop (l.length - 4), hd with
    | [a, b, c, d], _ => exact ⟨a, b, c, d, rfl⟩
  have hi := Crc.sealed_iff (l.take (l.length - 4)) a b c d
  rw [← hq, hs] at hi
  have hg : LeP.get (l.drop (l.length - 4)) = Crc.num4 a b c d := by
    rw [hq]; unfold LeP.get Crc.num4; simp only [List.take, LeP.num]; omega
  unfold tk
  rw [if_neg h, hg]
  by_cases h1 : Crc.reg Crc.ones l = Crc.Mn 32 Crc.ones
  · rw [if_pos h1, if_pos (hi.2 h1).symm]
  · rw [if_neg h1, if_neg (fun e => h1 (hi.1 e.symm))]
theorem reg_sealed (l : List UInt8) : Crc.reg Crc.ones (sealed l) = Crc.Mn 32 Crc.ones := by
  have h := tk_sealed l
  rw [tk_reg _ (by rw [sealed_length]; omega)] at h
  by_cases h1 : Crc.reg Crc.ones (sealed l) = Crc.Mn 32 Crc.ones
  · exact h1
  · rw [if_neg h1] at h; simp at h
/-- what holds of the bytes when the first k bits are done -/
structure Turned (p : List UInt8) (at_ which k t : Nat) (l : List UInt8) : Prop where
  len : l.length = p.length
  le : t ≤ k
  zero : t = 0 → l = p ∧ which % 2 ^ k = 0
  some : 0 < t → which % 2 ^ k ≠ 0
  reg : Crc.reg Crc.ones l = Crc.reg Crc.ones p ^^^ Crc.win at_ (8 * p.length) which k
theorem Turned.start (p : List UInt8) (at_ which : Nat) : Turned p at_ which 0 0 p :=
  ⟨rfl, Nat.le_refl _, fun _ => ⟨rfl, by rw [Nat.pow_zero, Nat.mod_one]⟩, fun h => absurd h (by omega), by rw [Crc.win_zero, BitVec.xor_zero]⟩
theorem Turned.no {p l : List UInt8} {at_ which k t : Nat} (h : Turned p at_ which k t l) (hb : ¬ which / 2 ^ k % 2 = 1) : Turned p at_ which (k + 1) t l := by
  have hm : which % 2 ^ (k + 1) = which % 2 ^ k := by rw [Crc.mod_succ, if_neg hb, Nat.add_zero]
  exact ⟨h.len, by have := h.le; omega, by rw [hm]; exact h.zero, by rw [hm]; exact h.some, by rw [Crc.win_no _ _ _ _ hb]; exact h.reg⟩
theorem Turned.yes {p l : List UInt8} {at_ which k t : Nat} (h : Turned p at_ which k t l) (hb : which / 2 ^ k % 2 = 1) (hk : k < 32) (hN : at_ + k < 8 * p.length) (d : UInt8) (hd : d.toNat = 2 ^ ((at_ + k) % 8)) :
    Turned p at_ which (k + 1) (t + 1) (l.set ((at_ + k) / 8) (l[(at_ + k) / 8]'(by rw [h.len]; omega) ^^^ d)) := by
  refine ⟨by rw [List.length_set]; exact h.len, by have := h.le; omega, fun h0 => by omega, fun _ => ?_, ?_⟩
  · rw [Crc.mod_succ, if_pos hb]
    have := Nat.two_pow_pos k
    omega
  · rw [Crc.reg_flip l (at_ + k) (by rw [h.len]; exact hN) _ d hd, h.reg, Crc.win_yes _ _ _ _ hk hN hb, h.len, BitVec.xor_assoc]
theorem Turned.found {p l : List UInt8} {at_ which k t : Nat} (h : Turned p at_ which k t l) (hp : Crc.reg Crc.ones p = Crc.Mn 32 Crc.ones) (hl : ¬ p.length < 4) (hk : k ≤ 32) (ht : 0 < t) : tk l = ([], 9) := by
  rw [tk_reg l (by rw [h.len]; exact hl), if_neg]
  rw [h.reg, hp]
  intro e
  refine Crc.win_ne at_ (8 * p.length) which k hk (h.some ht) ?_
  have h2 : Crc.Mn 32 Crc.ones ^^^ (Crc.Mn 32 Crc.ones ^^^ Crc.win at_ (8 * p.length) which k) = Crc.Mn 32 Crc.ones ^^^ Crc.Mn 32 Crc.ones := by rw [e]
  rw [← BitVec.xor_assoc, BitVec.xor_self, BitVec.zero_xor] at h2
  exact h2
end Go.Proofs.Ytolpnbeepiblkaa
namespace Go.Proofs.Ytolpnbeepiblkaa.Pr
open Go.RowKit Go.Proofs.YtolpnbeepiblkaaW.PrintWords Go.Proofs.YtolpnbeepiblkaaW.PrintLast Go.Proofs.Ytolpnbeepiblkaa
set_option linter.unusedVariables false
def image_Take.f (a0 : ByteArray) : Option (Int × Int × Int × (List SC) × Int) := if a0.size ≤ maxLen ∧ (tk a0.data.toList).2 ≠ 0 then some (0, 0, 0, [], (tk a0.data.toList).2) else none
theorem fl_info : (Try.prog.info? 26).map (·.size) = some 4 := by kernel_rfl
set_option maxRecDepth 100000 in
theorem image_Take.calls (a0 : ByteArray) (r1 : Int) (r2 : Int) (r3 : Int) (r4 : List SC) (r5 : Int) (w : World) (h : image_Take.f a0 = some (r1, r2, r3, r4, r5)) :
    Calls Try.prog 20 #[.string a0] w fun e w' => ∃ v4_ : Value, e = .returned (.tuple #[.agg #[.int .i64 r1, .int .i64 r2, .int .i64 r3, v4_], .int .i64 r5]) ∧ Kd.R kC 33 w' w.heap.size (fun _ => True) v4_ r4 ∧ Below w.heap.size w w' := by
  unfold image_Take.f at h
  by_cases hc : a0.size ≤ maxLen ∧ (tk a0.data.toList).2 ≠ 0
  · rw [if_pos hc] at h
    have h := Option.some.inj h
    simp only [Prod.mk.injEq] at h
    obtain ⟨rfl, rfl, rfl, rfl, rfl⟩ := h
    obtain ⟨hs, hne⟩ := hc
    have hb0 : ((tk a0.data.toList).2 == 0) = false := by simpa using hne
    have hb1 : ((tk a0.data.toList).2 != 0) = true := by simpa using hne
    generalize ht : (tk a0.data.toList).2 = t at hne hb0 hb1 ⊢
    go_enter Try.func20, Try.ntmps20
    go_wp2_with fail
    refine (stake_any a0 hs _).mono ?_
    rw [ht]
    rintro e w1 ⟨rfl, hb1_⟩
    have hk : Blk w1 w.heap.size 26 #[.int .i64 0, .int .i64 0, .int .i64 0, .slice none 0 0] := (Blk.new w _ _).below hb1_ (by simp)
    have hbel : Below w.heap.size w w1 := ((Below.refl _ _).alloc (Nat.le_refl _) _).trans (hb1_.mono (by simp))
    have c0 := hk.cell 0
    have c1 := hk.cell 1
    have c2 := hk.cell 2
    have c3 := hk.cell 3
    have f0 := hk.frozen 0
    have f1 := hk.frozen 1
    have f2 := hk.frozen 2
    have f3 := hk.frozen 3
    rw [show (#[.int .i64 0, .int .i64 0, .int .i64 0, .slice none 0 0] : Array Value)[0]? = some (.int .i64 0) from rfl] at c0
    rw [show (#[.int .i64 0, .int .i64 0, .int .i64 0, .slice none 0 0] : Array Value)[1]? = some (.int .i64 0) from rfl] at c1
    rw [show (#[.int .i64 0, .int .i64 0, .int .i64 0, .slice none 0 0] : Array Value)[2]? = some (.int .i64 0) from rfl] at c2
    rw [show (#[.int .i64 0, .int .i64 0, .int .i64 0, .slice none 0 0] : Array Value)[3]? = some (.slice none 0 0) from rfl] at c3
    have HBL := Lib.hid hbel
    have HK := Lib.hid hk
    clear hbel hb1_ hk
    go_wp2_with fail
    have h3 := (((HK.out.set_ 0 (.int .i64 0)).set_ 1 (.int .i64 0)).set_ 2 (.int .i64 0)).set_ 3 (.slice none 0 0)
    refine bodyPost_ret (results_row_tmp rfl _ _ w.heap.size _ _ _ _ rfl h3 Try.underlying26 rfl (by rw [fl_info]; rfl)) rfl ?_
    refine ⟨_, rfl, Kd.R_nil _ _ _ _ _, ?_⟩
    repeat (refine below_set ?_ (Nat.le_refl _))
    exact HBL.out
  · rw [if_neg hc] at h; cases h
end Go.Proofs.Ytolpnbeepiblkaa.Pr
namespace Go.Proofs.Ytolpnbeepiblkaa
open Go.RowKit Go.Proofs.YtolpnbeepiblkaaW.PrintWords Go.Proofs.YtolpnbeepiblkaaW.PrintLast
theorem p_length {id parent clusters : Int} {cs : List C} (hf : frB id parent clusters cs = true) (hlen : cs.length ≤ 80) : 4 ≤ (sealed (bodyL id.toNat parent.toNat clusters.toNat cs)).length ∧ (sealed (bodyL id.toNat parent.toNat clusters.toNat cs)).length ≤ 2000 := by
  obtain ⟨hr, _⟩ := frB_parts _ _ _ _ hf
  obtain ⟨hg, _, _⟩ := rightB_parts _ _ hr
  have h1 := texts_le cs (-1) hg
  have h2 := rowTo_le (tabs cs) 8
  rw [sealed_length]
  unfold bodyL
  simp only [List.length_append, LeP.bytes_length]
  have : magicL.length = 4 := rfl
  omega
set_option maxRecDepth 100000 in
set_option maxHeartbeats 1600000 in
theorem imageFinds_walk (A : Option Addr) (len cap : Nat) (id parent clusters : Int) (cs : List C) (at0 : Int) (which0 : Int) (w : World) (hl : len ≤ maxLen) (hr : CRow w A len cs) (w1 : (Lit.int .i64 at0).wf = true) (w2 : (Lit.int .u32 which0).wf = true) :
    Calls Try.prog 7 #[.agg #[.int .i64 id, .int .i64 parent, .int .i64 clusters, .slice A len cap], .int .i64 at0, .int .u32 which0] w fun e w' => e = .returned (.bool true) ∧ Below w.heap.size w w' := by
  have hcv := fun (s : ByteArray) (w : World) => run_bytes_of_string (P := Try.prog) w 9 55 5 s Try.underlying9 Try.underlying55 Try.underlying5
  obtain ⟨q, rfl, hq⟩ : ∃ n : Nat, which0 = (n : Int) ∧ n < 4294967296 := by
    simp only [Lit.wf, Bool.and_eq_true, decide_eq_true_eq] at w2
    have h1 : IntKind.u32.min = 0 := rfl
    have h2 : IntKind.u32.max = 4294967295 := rfl
    exact ⟨which0.toNat, by omega, by omega⟩
  have hat : at0 ≤ 9223372036854775807 := by
    simp only [Lit.wf, Bool.and_eq_true, decide_eq_true_eq] at w1
    exact w1.2
  clear w1 w2
  have hlc : cs.length = len := hr.1
  have hb := Blk.new w 26 #[.int .i64 id, .int .i64 parent, .int .i64 clusters, .slice A len cap]
  have hb0 : Below w.heap.size w (w.alloc (.cells #[.int .i64 id, .int .i64 parent, .int .i64 clusters, .slice A len cap] 26)) := (Below.refl _ _).alloc (Nat.le_refl _) _
  have HB := Lib.hid hb
  have H0 := Lib.hid hb0
  have HR := Lib.hid hr
  have HL := Lib.hid hl
  have HLC := Lib.hid hlc
  have HCV := Lib.hid hcv
  clear hb hb0 hr hl hlc hcv
  go_enter Try.func7, Try.ntmps7
  go_wp2_with fail
  refine (shown10_any _).mono ?_
  rintro e w1 ⟨rfl, hb1⟩
  have hb := HB.out.below hb1 (by simp)
  have hbel := H0.out.trans (hb1.mono H0.out.size)
  have HB1 := Lib.hid hb
  have H1 := Lib.hid hbel
  clear hb hbel hb1 HB H0
  have b0 := HB1.out.cell 0
  have b1 := HB1.out.cell 1
  have b2 := HB1.out.cell 2
  have b3 := HB1.out.cell 3
  rw [show (#[Value.int IntKind.i64 id, .int .i64 parent, .int .i64 clusters, .slice A len cap] : Array Value)[0]? = some (.int .i64 id) from rfl] at b0
  rw [show (#[Value.int IntKind.i64 id, .int .i64 parent, .int .i64 clusters, .slice A len cap] : Array Value)[1]? = some (.int .i64 parent) from rfl] at b1
  rw [show (#[Value.int IntKind.i64 id, .int .i64 parent, .int .i64 clusters, .slice A len cap] : Array Value)[2]? = some (.int .i64 clusters) from rfl] at b2
  rw [show (#[Value.int IntKind.i64 id, .int .i64 parent, .int .i64 clusters, .slice A len cap] : Array Value)[3]? = some (.slice A len cap) from rfl] at b3
  by_cases h80 : 80 < len
  · go_wp2_with fail
    go_ret
    exact ⟨rfl, H1.out⟩
  · have hput := iput_any A len cap id parent clusters cs w1 HL.out (HR.out.below H1.out)
    cases hf : frB id parent clusters cs with
    | false =>
      have hp : putR id parent clusters cs = (bs [], 1) := by unfold putR; rw [hf, if_neg (by decide)]
      rw [hp] at hput
      have HP := Lib.hid hput
      clear hput hp hf
      go_wp2_with fail
      refine HP.out.mono ?_
      rintro e w2 ⟨rfl, hb2⟩
      go_wp2_with fail
      go_ret
      exact ⟨rfl, H1.out.trans (hb2.mono H1.out.size)⟩
    | true =>
      obtain ⟨p, hp⟩ : ∃ p, p = sealed (bodyL id.toNat parent.toNat clusters.toNat cs) := ⟨_, rfl⟩
      have hpl := p_length hf (by have := HLC.out; omega)
      rw [← hp] at hpl
      have hreg : Crc.reg Crc.ones p = Crc.Mn 32 Crc.ones := by rw [hp]; exact reg_sealed _
      have hpr : putR id parent clusters cs = (bs p, 0) := by unfold putR; rw [hf, if_pos rfl, hp]
      rw [hpr] at hput
      obtain ⟨b, hb⟩ : ∃ b, b = bs p := ⟨_, rfl⟩
      have hbl : b.data.toList = p := by rw [hb, bs_list]
      have hbs : b.size ≤ 2004 := by rw [hb, bs_size]; omega
      have hbs2 : 4 ≤ b.size := by rw [hb, bs_size]; omega
      have hbp : p.length = b.size := by rw [hb, bs_size]
      rw [← hb] at hput
      have HP := Lib.hid hput
      have HRG := Lib.hid hreg
      have HBL := Lib.hid hbl
      have HLN := Lib.hid hbp
      clear hput hpr hp hpl hb hreg hbl hbp hf
      by_cases hq0 : q = 0
      · subst hq0
        go_wp2_with fail
        refine HP.out.mono ?_
        rintro e w2 ⟨rfl, hb2⟩
        go_wp2_with fail
        go_ret
        exact ⟨rfl, H1.out.trans (hb2.mono H1.out.size)⟩
      · have hqb : ((q : Int) == 0) = false := by rw [beq_eq_false_iff_ne]; omega
        by_cases hneg : at0 < 0
        · go_wp2_with fail
          refine HP.out.mono ?_
          rintro e w2 ⟨rfl, hb2⟩
          go_wp2_with fail
          go_ret
          exact ⟨rfl, H1.out.trans (hb2.mono H1.out.size)⟩
        · obtain ⟨a, rfl⟩ : ∃ a : Nat, at0 = (a : Int) := ⟨at0.toNat, by omega⟩
          by_cases hbig : 8 * (b.size : Int) - 32 < (a : Int)
          · go_wp2_with fail
            refine HP.out.mono ?_
            rintro e w2 ⟨rfl, hb2⟩
            go_wp2_with fail
            go_ret
            exact ⟨rfl, H1.out.trans (hb2.mono H1.out.size)⟩
          · go_wp2_with fail
            refine HP.out.mono ?_
            rintro e w2 ⟨rfl, hb2⟩
            have hbel2 := H1.out.trans (hb2.mono H1.out.size)
            have H2 := Lib.hid hbel2
            have hcv := HCV.out
            clear hb2 hbel2 b0 b1 b2 b3
            go_wp2_with fail
            go_loopw [11] (fun k wr => ∃ (K T : Nat) (l : List UInt8), K ≤ 32 ∧ k = .int .i64 K ∧ Turned p a q K T l ∧ Byts wr w2.heap.size l ∧ Below w.heap.size w wr) (fun k _ => 32 - (intOf k).toNat)
            case atStart =>
              have hby := byts_new w2 b (grownCap w2 b.size 0 5) 5
              rw [HBL.out] at hby
              exact ⟨0, 0, p, by omega, rfl, Turned.start _ _ _, hby, (H2.out.alloc H2.out.size _).drew⟩
            case round =>
              obtain ⟨K, T, l, hK, rfl, hT, hby, hbel⟩ := hrel
              by_cases hk : K < 32
              · have hN : a + K < 8 * b.size := by omega
                have hNp : a + K < 8 * p.length := by have := HLN.out; omega
                have hlen : l.length = b.size := by have := hT.len; have := HLN.out; omega
                by_cases hbit : q / 2 ^ K % 2 = 1
                · have hbi := bit_and q K hq
                  rw [hbit] at hbi
                  obtain ⟨d, hd⟩ : ∃ d : UInt8, d.toNat = 2 ^ ((a + K) % 8) := ⟨UInt8.ofNat (2 ^ ((a + K) % 8)), pow8 _⟩
                  have hyes := hT.yes hbit hk hNp d hd
                  have hidx : (a + K) / 8 < l.length := by omega
                  have hcell := hby.cell ((a + K) / 8) hidx
                  have hfro := hby.frozen ((a + K) / 8) hidx
                  have hset := hby.set_ ((a + K) / 8) hidx (l[(a + K) / 8] ^^^ d)
                  obtain ⟨c, hc⟩ : ∃ c, c = l[(a + K) / 8] := ⟨_, rfl⟩
                  have hlow : (a + K) / 8 < b.size := by omega
                  rw [← hc] at hcell hset hyes
                  rw [← u8_xor_u, hd] at hset
                  have HY := Lib.hid hyes
                  have HS := Lib.hid hset
                  clear hyes hset hc hd hbit hT hcv hlen hNp hidx
                  go_wp2
                  go_region
                  go_wp2
                  go_roundw
                  case rel =>
                    have hS2 := HS.out
                    rw [← pow8_int] at hS2
                    exact ⟨K + 1, T + 1, _, by omega, by go_num, HY.out, hS2.drew, (hbel.setCell H2.out.size _).drew⟩
                  case measure => simp [intOf]; omega
                · have hbi := bit_and q K hq
                  have hb0 : q / 2 ^ K % 2 = 0 := by omega
                  rw [hb0] at hbi
                  have hno := hT.no hbit
                  have HN := Lib.hid hno
                  clear hno hbit hb0 hT hcv hlen hNp
                  go_wp2
                  go_roundw
                  case rel => exact ⟨K + 1, T, l, by omega, by go_num, HN.out, hby, hbel⟩
                  case measure => simp [intOf]; omega
              · obtain rfl : K = 32 := by omega
                have hll : l.length = b.size := by have := hT.len; have := HLN.out; omega
                have hback := hby.back (P := Try.prog) b.size (grownCap w2 b.size 0 5) hll 55 9 5 Try.underlying55 Try.underlying5 Try.underlying9
                have h4 : ¬ p.length < 4 := by have := HLN.out; omega
                have hT0 : 0 < T := by
                  rcases Nat.eq_zero_or_pos T with h0 | h0
                  · have := (hT.zero h0).2; omega
                  · exact h0
                have hz := hT.found HRG.out h4 (by omega) hT0
                have htake := fun w => Pr.image_Take.calls (bs l) 0 0 0 [] 9 w (by
                  unfold Pr.image_Take.f
                  rw [bs_list, hz, if_pos ⟨by rw [bs_size]; unfold maxLen; omega, by decide⟩])
                have HTK := Lib.hid htake
                clear htake hz hT hby hll h4 hcv hT0
                go_wp2_with fail
                refine (HTK.out _).mono ?_
                rintro e w3 ⟨v4, rfl, ho, hb3⟩
                obtain ⟨Ao, co, rfl⟩ := Kd.R_slice ho
                have hbel3 := hbel.trans (hb3.mono hbel.size)
                have H3 := Lib.hid hbel3
                clear hb3 hbel3 ho
                go_wp2_with fail
                go_ret
                refine ⟨?_, ?_⟩
                · simp
                · exact H3.out.alloc H3.out.size _
end Go.Proofs.Ytolpnbeepiblkaa
