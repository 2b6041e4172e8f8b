/- The contract of rootcellarref2.Put: a number as bytes, made by append. Conditions: the number fits its kind. -/
import Derived.Test.YtolpnbeepiblkaaChecked
import Derived.Test.YtolpnbeepiblkaaWords
import Derived.Test.YtolpnbeepiblkaaLeP
import Derived.Test.YtolpnbeepiblkaaLe
namespace Go.Proofs.Ytolpnbeepiblkaa
open Go.RowKit
theorem u8_info : (Try.prog.info? 5).map (fun i => (i.zero, i.size, i.bytes)) = some (some (.int .u8 0), 1, 1) := by kernel_rfl
def u8s (l : List UInt8) : List Value := l.map fun c => Value.int .u8 (c.toNat : Int)
theorem u8s_length (l : List UInt8) : (u8s l).length = l.length := by simp [u8s]
theorem own_form {w : World} {base e size : Nat} {v : Value} {n : Nat} {xs : List Value} (h : w.ownsRow base e size v n xs) (hn : 0 < n) :
    ∃ g cap, v = .slice (some ⟨g, 0, none⟩) n cap ∧ base ≤ g ∧ g < w.heap.size := by
  rcases h.2 with ⟨_, h0⟩ | ⟨g, cap, cur, hv, hb, hg, _⟩
  · omega
  · exact ⟨g, cap, hv, hb, (Array.getElem?_eq_some_iff.1 hg).1⟩
theorem own_below {w w' : World} {base e size : Nat} {v : Value} {n : Nat} {xs : List Value} {B : Nat} (h : w.ownsRow base e size v n xs) {a : World} (hb : Below B a w) (hB : B ≤ base) (hw : B ≤ w.heap.size) (hg : w.grownBy w' v.ownBlock) : Below B a w' :=
  hb.grown hg hw fun k hk => Nat.le_trans hB (h.lt k hk).1
/-- 'string(b)' of bytes that the call owns -/
theorem own_back {P : Program} {w : World} {base e : Nat} {v : Value} {n : Nat} {l : List UInt8} (h : w.ownsRow base e 1 v n (u8s l)) (src dst e' : TypeId) (hs : P.underlying src = some (.slice e')) (he : P.underlying e' = some (.int .u8)) (hd : P.underlying dst = some .string) :
    (convert src dst v).run P w = .ok (.string ⟨l.toArray⟩) w := by
  have hn : l.length = n := by have := h.1; rw [u8s_length] at this; omega
  rcases Nat.eq_zero_or_pos n with h0 | hp
  · subst h0
    have hl : l = [] := List.eq_nil_of_length_eq_zero hn
    subst hl
    rcases h.2 with ⟨rfl, _⟩ | ⟨g, cap, cur, rfl, _⟩
    · exact run_convert_bytes_nil w src e' hs he 0 0 dst hd
    · have := run_convert_bytes_back (P := P) w src dst e' ⟨g, 0, none⟩ cap [] hs he hd (fun j hj => absurd hj (by simp))
      exact this
  · obtain ⟨g, cap, rfl, _, _⟩ := own_form h hp
    have := run_convert_bytes_back (P := P) w src dst e' ⟨g, 0, none⟩ cap l hs he hd (fun j hj => by
      have := h.cells (g := g) rfl j (.int .u8 (l[j].toNat : Int)) (by simp [u8s, hj])
      exact this)
    rw [hn] at this
    exact this
theorem one_at (w : World) (u : Value) (t : TypeId) (j : Nat) (x : Value) (hj : [u][j]? = some x) : (w.alloc (.cells #[u] t)).cell? ((⟨w.heap.size, 0, none⟩ : Addr).add j) = some x := by
  match j, hj with
  | 0, hj => simp at hj; subst hj; simp [Addr.add]
theorem u8s_one (l : List UInt8) : ∀ u ∈ u8s l, u.oneCell' = true := by
  intro u hu
  simp only [u8s, List.mem_map] at hu
  obtain ⟨c, _, rfl⟩ := hu
  rfl
set_option maxRecDepth 100000 in
set_option maxHeartbeats 800000 in
theorem rput_any (n0 : Nat) (many : Int) (hn : n0 < 18446744073709551616) (w : World) :
    Calls Try.prog 28 #[.int .u64 (n0 : Int), .int .i64 many] w fun e w' => e = .returned (.string ⟨(LeP.bytes (clamp8 many) n0).toArray⟩) ∧ Below w.heap.size w w' := by
  obtain ⟨i0, hi, hz0, hz1, hz2⟩ := info_parts u8_info
  go_enter Try.func28, Try.ntmps28
  go_wp2_with fail
  go_loopw [0, 5, 6] (fun n v i wr => ∃ k : Nat, k ≤ clamp8 many ∧ i = .int .i64 k ∧ n = .int .u64 ((n0 / 256 ^ k : Nat) : Int) ∧ wr.ownsRow w.heap.size 5 1 v k (u8s (LeP.bytes k n0)) ∧ Below w.heap.size w wr) (fun _ _ i _ => 8 - (intOf i).toNat)
  case atStart => exact ⟨0, by omega, rfl, by simp, World.ownsRow_nil _ _ _ _, Below.refl _ _⟩
  case round =>
    obtain ⟨k, hk, rfl, rfl, hown, hbel⟩ := hrel
    have hc8 : clamp8 many ≤ 8 := by unfold clamp8; omega
    by_cases hlt : k < clamp8 many
    · have h1 : (k : Int) < many := by unfold clamp8 at hlt; omega
      have h2 : (k : Int) < 8 := by omega
      have hsn := LeP.bytes_snoc k n0
      obtain ⟨m, hm⟩ : ∃ m, m = n0 / 256 ^ k := ⟨_, rfl⟩
      have hm64 : m < 18446744073709551616 := by rw [hm]; exact Nat.lt_of_le_of_lt (Nat.div_le_self _ _) hn
      have hnx : m / 256 = n0 / 256 ^ (k + 1) := by rw [hm, Nat.div_div_eq_div_mul, Nat.pow_succ]
      rw [← hm] at hsn ⊢
      have HSN := Lib.hid hsn
      have HNX := Lib.hid hnx
      clear hsn hnx hm
      go_wp2_with (at_builtin; refine wpList_append_own _ rfl (.tmp 16) (.tmp 20) 55 rfl w.heap.size 5 i0 (.int .u8 0) 1 1 Try.underlying55 hi hz0 hz1 hz2 rfl (by decide) _ _ _ rfl (hown.alloc _) ⟨wr.heap.size, 0, none⟩ 1 1 [.int .u8 ((m : Int) % 256)] rfl rfl ?c1 ?c2 ?c3 ?c4 ?c5 ?_)
      case c1 => exact fun j u hj => one_at _ _ _ j u hj
      case c2 => intro u hu; simp at hu; subst hu; rfl
      case c3 => unfold maxLen; omega
      case c4 => omega
      case c5 => have := hbel.size; simp; omega
      intro v' w1 hown1 hg1 hnn
      have hB1 : Below w.heap.size w w1 := own_below (hown.alloc _) (hbel.alloc hbel.size _) (Nat.le_refl _) (by have := hbel.size; simp; omega) hg1
      have HO := Lib.hid hown1
      clear hown1 hg1 hnn hown hbel
      go_wp2
      go_roundw
      case rel =>
        refine ⟨k + 1, by omega, by go_num, ?_, ?_, hB1⟩
        · have e : (m : Int) / 256 = ((n0 / 256 ^ (k + 1) : Nat) : Int) := by rw [← HNX.out]; rfl
          rw [e]
        · rw [HSN.out]
          have := HO.out
          simp only [u8s, List.map_append, List.map_cons, List.map_nil, LeP.toNat_ofNat_mod] at this ⊢
          exact this
      case measure => simp [intOf]; omega
    · obtain rfl : k = clamp8 many := by omega
      have hbk := own_back (P := Try.prog) hown 55 9 5 Try.underlying55 Try.underlying5 Try.underlying9
      by_cases hm : ((clamp8 many : Nat) : Int) < many
      · have h8 : ¬ ((clamp8 many : Nat) : Int) < 8 := by unfold clamp8 at hm ⊢; omega
        have h8' : (8 : Int) ≤ ((clamp8 many : Nat) : Int) := by omega
        clear hown
        go_wp2
        go_ret
        exact ⟨rfl, hbel⟩
      · clear hown
        go_wp2
        go_ret
        exact ⟨rfl, hbel⟩
end Go.Proofs.Ytolpnbeepiblkaa
