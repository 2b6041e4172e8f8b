/- The walk of rootcellarlaw3.SealFinds: it returns true whatever is handed in; nothing that was there is turned. Conditions: the length is that of a text, the numbers those of their kinds. -/
import Derived.Test.YtcncaflegghhfaaSealBack
namespace Go.Proofs.Ytcncaflegghhfaa
open Go.RowKit
theorem bit_and (q k : Nat) (h : q < 4294967296) : bits .and .u32 ((q : Int) / 2 ^ k) 1 = ((q / 2 ^ k % 2 : Nat) : Int) := by
  have e : (q : Int) / 2 ^ k = ((q / 2 ^ k : Nat) : Int) := by rw [Int.natCast_ediv, Int.natCast_pow]; rfl
  have := u32_and_nat (q / 2 ^ k) 1 (Nat.lt_of_le_of_lt (Nat.div_le_self _ _) h) (by omega)
  rw [Nat.and_one_is_mod] at this
  rw [e]; exact this
theorem pow8 (n : Nat) : (UInt8.ofNat (2 ^ (n % 8))).toNat = 2 ^ (n % 8) := by
  have h : n % 8 < 8 := Nat.mod_lt _ (by decide)
  have h2 : 2 ^ (n % 8) < 2 ^ 8 := Nat.pow_lt_pow_right (by decide) h
  rw [UInt8.toNat_ofNat']
  exact Nat.mod_eq_of_lt h2
theorem pow8_int (n : Nat) : (2 : Int) ^ (n % 8) % 256 = ((2 ^ (n % 8) : Nat) : Int) := by
  have h : n % 8 < 8 := Nat.mod_lt _ (by decide)
  have h2 : 2 ^ (n % 8) < 2 ^ 8 := Nat.pow_lt_pow_right (by decide) h
  have e : (2 : Int) ^ (n % 8) = ((2 ^ (n % 8) : Nat) : Int) := by rw [Int.natCast_pow]; rfl
  rw [e]
  clear e
  generalize (2 : Nat) ^ (n % 8) = x at h2 ⊢
  omega
/-- taken just if the register comes to one number -/
theorem tk_reg (l : List UInt8) (h : ¬ l.length < 4) : tk l = if Crc.reg Crc.ones l = Crc.Mn 32 Crc.ones then (l.take (l.length - 4), 0) else ([], 9) := by
  have hs : l.take (l.length - 4) ++ l.drop (l.length - 4) = l := List.take_append_drop _ _
  have hd : (l.drop (l.length - 4)).length = 4 := by rw [List.length_drop]; omega
  obtain ⟨a, b, c, d, hq⟩ : ∃ a b c d, l.drop (l.length - 4) = [a, b, c, d] := by
    match l.drop (l.length - 4), hd with
    | [a, b, c, d], _ => exact ⟨a, b, c, d, rfl⟩
  have hi := Crc.sealed_iff (l.take (l.length - 4)) a b c d
  rw [← hq, hs] at hi
  have hg : LeP.get (l.drop (l.length - 4)) = Crc.num4 a b c d := by
    rw [hq]; unfold LeP.get Crc.num4; simp only [List.take, LeP.num]; omega
  unfold tk
  rw [if_neg h, hg]
  by_cases h1 : Crc.reg Crc.ones l = Crc.Mn 32 Crc.ones
  · rw [if_pos h1, if_pos (hi.2 h1).symm]
  · rw [if_neg h1, if_neg (fun e => h1 (hi.1 e.symm))]
theorem reg_sealed (l : List UInt8) : Crc.reg Crc.ones (sealed l) = Crc.Mn 32 Crc.ones := by
  have h := tk_sealed l
  rw [tk_reg _ (by rw [sealed_length]; omega)] at h
  by_cases h1 : Crc.reg Crc.ones (sealed l) = Crc.Mn 32 Crc.ones
  · exact h1
  · rw [if_neg h1] at h; simp at h
/-- what holds of the bytes when the first k bits are done -/
structure Turned (p : List UInt8) (at_ which k t : Nat) (l : List UInt8) : Prop where
  len : l.length = p.length
  le : t ≤ k
  zero : t = 0 → l = p ∧ which % 2 ^ k = 0
  some : 0 < t → which % 2 ^ k ≠ 0
  reg : Crc.reg Crc.ones l = Crc.reg Crc.ones p ^^^ Crc.win at_ (8 * p.length) which k
theorem Turned.start (p : List UInt8) (at_ which : Nat) : Turned p at_ which 0 0 p :=
  ⟨rfl, Nat.le_refl _, fun _ => ⟨rfl, by rw [Nat.pow_zero, Nat.mod_one]⟩, fun h => absurd h (by omega), by rw [Crc.win_zero, BitVec.xor_zero]⟩
theorem Turned.no {p l : List UInt8} {at_ which k t : Nat} (h : Turned p at_ which k t l) (hb : ¬ which / 2 ^ k % 2 = 1) : Turned p at_ which (k + 1) t l := by
  have hm : which % 2 ^ (k + 1) = which % 2 ^ k := by rw [Crc.mod_succ, if_neg hb, Nat.add_zero]
  exact ⟨h.len, by have := h.le; omega, by rw [hm]; exact h.zero, by rw [hm]; exact h.some, by rw [Crc.win_no _ _ _ _ hb]; exact h.reg⟩
theorem Turned.yes {p l : List UInt8} {at_ which k t : Nat} (h : Turned p at_ which k t l) (hb : which / 2 ^ k % 2 = 1) (hk : k < 32) (hN : at_ + k < 8 * p.length) (d : UInt8) (hd : d.toNat = 2 ^ ((at_ + k) % 8)) :
    Turned p at_ which (k + 1) (t + 1) (l.set ((at_ + k) / 8) (l[(at_ + k) / 8]'(by rw [h.len]; omega) ^^^ d)) := by
  refine ⟨by rw [List.length_set]; exact h.len, by have := h.le; omega, fun h0 => by omega, fun _ => ?_, ?_⟩
  · rw [Crc.mod_succ, if_pos hb]
    have := Nat.two_pow_pos k
    omega
  · rw [Crc.reg_flip l (at_ + k) (by rw [h.len]; exact hN) _ d hd, h.reg, Crc.win_yes _ _ _ _ hk hN hb, h.len, BitVec.xor_assoc]
theorem Turned.found {p l : List UInt8} {at_ which k t : Nat} (h : Turned p at_ which k t l) (hp : Crc.reg Crc.ones p = Crc.Mn 32 Crc.ones) (hl : ¬ p.length < 4) (hk : k ≤ 32) (ht : 0 < t) : tk l = ([], 9) := by
  rw [tk_reg l (by rw [h.len]; exact hl), if_neg]
  rw [h.reg, hp]
  intro e
  refine Crc.win_ne at_ (8 * p.length) which k hk (h.some ht) ?_
  have h2 : Crc.Mn 32 Crc.ones ^^^ (Crc.Mn 32 Crc.ones ^^^ Crc.win at_ (8 * p.length) which k) = Crc.Mn 32 Crc.ones ^^^ Crc.Mn 32 Crc.ones := by rw [e]
  rw [← BitVec.xor_assoc, BitVec.xor_self, BitVec.zero_xor] at h2
  exact h2
set_option maxRecDepth 100000 in
set_option maxHeartbeats 1600000 in
theorem sealFinds_walk (s : ByteArray) (at0 : Int) (which0 : Int) (w : World) (w0 : s.size ≤ maxLen) (w1 : (Lit.int .i64 at0).wf = true) (w2 : (Lit.int .u32 which0).wf = true) :
    Calls Try.prog 5 #[.string s, .int .i64 at0, .int .u32 which0] w fun e w' => e = .returned (.bool true) ∧ Below w.heap.size w w' := by
  unfold maxLen at w0
  have hcv := fun (s : ByteArray) (w : World) => run_bytes_of_string (P := Try.prog) w 9 23 5 s Try.underlying9 Try.underlying23 Try.underlying5
  obtain ⟨q, rfl, hq⟩ : ∃ n : Nat, which0 = (n : Int) ∧ n < 4294967296 := by
    simp only [Lit.wf, Bool.and_eq_true, decide_eq_true_eq] at w2
    have h1 : IntKind.u32.min = 0 := rfl
    have h2 : IntKind.u32.max = 4294967295 := rfl
    exact ⟨which0.toNat, by omega, by omega⟩
  have hat : at0 ≤ 9223372036854775807 := by
    simp only [Lit.wf, Bool.and_eq_true, decide_eq_true_eq] at w1
    exact w1.2
  clear w1 w2
  by_cases h : s.size ≤ 2000
  · by_cases hq0 : q = 0
    · subst hq0
      go_enter Try.func5, Try.ntmps5
      go_wp2_with (go_at_call 9; refine (shown_any _).mono ?_; rintro e w1 ⟨rfl, hb1⟩)
      go_ret
      exact ⟨rfl, hb1⟩
    · have hqb : ((q : Int) == 0) = false := by rw [beq_eq_false_iff_ne]; omega
      by_cases hneg : at0 < 0
      · go_enter Try.func5, Try.ntmps5
        go_wp2_with (go_at_call 9; refine (shown_any _).mono ?_; rintro e w1 ⟨rfl, hb1⟩)
        go_ret
        exact ⟨rfl, hb1⟩
      · obtain ⟨a, rfl⟩ : ∃ a : Nat, at0 = (a : Int) := ⟨at0.toNat, by omega⟩
        obtain ⟨p, hp⟩ : ∃ p, p = sealed s.data.toList := ⟨_, rfl⟩
        have hpl : p.length = s.size + 4 := by rw [hp, sealed_length, size_list]
        have hreg : Crc.reg Crc.ones p = Crc.Mn 32 Crc.ones := by rw [hp]; exact reg_sealed _
        have hput : ∀ w : World, Calls Try.prog 11 #[.string s] w fun e w' => e = .returned (.string (bs p)) ∧ Below w.heap.size w w' := by
          rw [hp]; exact sput_any s (by unfold maxLen; omega)
        have htk0 : tk p = (s.data.toList, 0) := by rw [hp]; exact tk_sealed _
        obtain ⟨b, hb⟩ : ∃ b, b = bs p := ⟨_, rfl⟩
        have hbl : b.data.toList = p := by rw [hb, bs_list]
        have hbs : b.size ≤ 2004 := by rw [hb, bs_size]; omega
        have hbs2 : 4 ≤ b.size := by rw [hb, bs_size]; omega
        have hbp : p.length = b.size := by rw [hb, bs_size]
        rw [← hb] at hput
        have HP := Lib.hid hput
        have HR := Lib.hid hreg
        have HT := Lib.hid htk0
        have HBL := Lib.hid hbl
        have HL := Lib.hid hbp
        clear hput hp hpl hb hreg htk0 hbl hbp
        go_enter Try.func5, Try.ntmps5
        go_wp2_with (first
          | (go_at_call 9; refine (shown_any _).mono ?_; rintro e w1 ⟨rfl, hb1⟩)
          | (go_at_call 11; refine (HP.out _).mono ?_; rintro e w2 ⟨rfl, hb2⟩))
        go_loopw [9, 10] (fun t k wr => ∃ (K T : Nat) (l : List UInt8), K ≤ 32 ∧ k = .int .i64 K ∧ t = .int .i64 T ∧ Turned p a q K T l ∧ Byts wr w2.heap.size l ∧ Below w.heap.size w wr) (fun _ k _ => 32 - (intOf k).toNat)
        case atStart =>
          have hby := byts_new w2 b (grownCap w2 b.size 0 5) 5
          rw [HBL.out] at hby
          exact ⟨0, 0, p, by omega, rfl, rfl, Turned.start _ _ _, hby, ((bt hb1 hb2).alloc (bt hb1 hb2).size _).drew⟩
        case round =>
          obtain ⟨K, T, l, hK, rfl, rfl, hT, hby, hbel⟩ := hrel
          have hTK := hT.le
          by_cases hk : K < 32
          · by_cases hN : a + K < 8 * b.size
            · have hNp : a + K < 8 * p.length := by have := HL.out; omega
              have hlen : l.length = b.size := by have := hT.len; have := HL.out; omega
              by_cases hbit : q / 2 ^ K % 2 = 1
              · have hbi := bit_and q K hq
                rw [hbit] at hbi
                obtain ⟨d, hd⟩ : ∃ d : UInt8, d.toNat = 2 ^ ((a + K) % 8) := ⟨UInt8.ofNat (2 ^ ((a + K) % 8)), pow8 _⟩
                have hyes := hT.yes hbit hk hNp d hd
                have hidx : (a + K) / 8 < l.length := by omega
                have hcell := hby.cell ((a + K) / 8) hidx
                have hfro := hby.frozen ((a + K) / 8) hidx
                have hset := hby.set_ ((a + K) / 8) hidx (l[(a + K) / 8] ^^^ d)
                obtain ⟨c, hc⟩ : ∃ c, c = l[(a + K) / 8] := ⟨_, rfl⟩
                have hlow : (a + K) / 8 < b.size := by omega
                rw [← hc] at hcell hset hyes
                rw [← u8_xor_u, hd] at hset
                have HY := Lib.hid hyes
                have HS := Lib.hid hset
                clear hyes hset hc hd hbit hT hcv hlen hNp hidx
                go_wp2
                go_region
                go_wp2
                go_roundw
                case rel =>
                  have hS2 := HS.out
                  rw [← pow8_int] at hS2
                  exact ⟨K + 1, T + 1, _, by omega, by go_num, by go_num, HY.out, hS2.drew, (hbel.setCell (bt hb1 hb2).size _).drew⟩
                case measure => simp [intOf]; omega
              · have hbi := bit_and q K hq
                have hb0 : q / 2 ^ K % 2 = 0 := by omega
                rw [hb0] at hbi
                have hno := hT.no hbit
                have HN := Lib.hid hno
                clear hno hbit hb0 hT hcv hlen hNp
                go_wp2
                go_roundw
                case rel => exact ⟨K + 1, T, l, by omega, by go_num, rfl, HN.out, hby, hbel⟩
                case measure => simp [intOf]; omega
            · have hge : 8 * (b.size : Int) - (K : Int) ≤ (a : Int) := by omega
              have hll : l.length = b.size := by have := hT.len; have := HL.out; omega
              have hback := hby.back (P := Try.prog) b.size (grownCap w2 b.size 0 5) hll 23 9 5 Try.underlying23 Try.underlying5 Try.underlying9
              have htake := stake_any (bs l) (by rw [bs_size]; unfold maxLen; omega)
              rw [bs_list] at htake
              have h4 : ¬ p.length < 4 := by have := HL.out; omega
              by_cases hT0 : T = 0
              · have hz := hT.zero hT0
                rw [hz.1, HT.out, bs_data] at htake
                rw [hz.1] at hback
                subst hT0
                have HTK := Lib.hid htake
                clear htake hz hT hby hll h4 hcv
                go_wp2_with fail
                refine (HTK.out _).mono ?_
                rintro e w3 ⟨rfl, hb3⟩
                go_wp2_with fail
                go_ret
                refine ⟨?_, bt hbel hb3⟩
                simp
              · have hz := hT.found HR.out h4 (by omega) (by omega)
                rw [hz] at htake
                have HTK := Lib.hid htake
                have hTb : ((T : Int) == 0) = false := by rw [beq_eq_false_iff_ne]; omega
                clear htake hz hT hby hll h4 hcv hT0
                go_wp2_with fail
                refine (HTK.out _).mono ?_
                rintro e w3 ⟨rfl, hb3⟩
                go_wp2_with fail
                go_ret
                refine ⟨?_, bt hbel hb3⟩
                simp
          · obtain rfl : K = 32 := by omega
            have hll : l.length = b.size := by have := hT.len; have := HL.out; omega
            have hback := hby.back (P := Try.prog) b.size (grownCap w2 b.size 0 5) hll 23 9 5 Try.underlying23 Try.underlying5 Try.underlying9
            have htake := stake_any (bs l) (by rw [bs_size]; unfold maxLen; omega)
            rw [bs_list] at htake
            have h4 : ¬ p.length < 4 := by have := HL.out; omega
            by_cases hT0 : T = 0
            · have hz := hT.zero hT0
              rw [hz.1, HT.out, bs_data] at htake
              rw [hz.1] at hback
              subst hT0
              have HTK := Lib.hid htake
              clear htake hz hT hby hll h4 hcv
              go_wp2_with fail
              refine (HTK.out _).mono ?_
              rintro e w3 ⟨rfl, hb3⟩
              go_wp2_with fail
              go_ret
              refine ⟨?_, bt hbel hb3⟩
              simp
            · have hz := hT.found HR.out h4 (by omega) (by omega)
              rw [hz] at htake
              have HTK := Lib.hid htake
              have hTb : ((T : Int) == 0) = false := by rw [beq_eq_false_iff_ne]; omega
              clear htake hz hT hby hll h4 hcv hT0
              go_wp2_with fail
              refine (HTK.out _).mono ?_
              rintro e w3 ⟨rfl, hb3⟩
              go_wp2_with fail
              go_ret
              refine ⟨?_, bt hbel hb3⟩
              simp
  · go_enter Try.func5, Try.ntmps5
    go_wp2_with (go_at_call 9; refine (shown_any _).mono ?_; rintro e w1 ⟨rfl, hb1⟩)
    go_ret
    exact ⟨rfl, hb1⟩
end Go.Proofs.Ytcncaflegghhfaa
