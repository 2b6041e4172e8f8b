/- Words for memory: a block that is known whole, what stays below a block; helpers of the walks. No conditions. -/
import Derived.WalkKit
import Derived.Below
import Derived.Laws.OwnMore
import Derived.Deep.Draws
import Derived.Laws.Rows
import Derived.Deep.WholeRow
import Derived.Lib.Hide
import Derived.Laws.IdiomStrings
namespace Go.Proofs.YtfdhehjfbcddgaaDoor
open Go.RowKit
def Blk (w : World) (g : Nat) (t : TypeId) (cs : Array Value) : Prop := w.heap[g]? = some (.cells cs t (0, 0))
section
variable {w w' : World} {g : Nat} {t : TypeId} {cs : Array Value}
theorem Blk.lt (h : Blk w g t cs) : g < w.heap.size := by
  rcases Nat.lt_or_ge g w.heap.size with hlt | hge
  · exact hlt
  · unfold Blk at h; rw [Array.getElem?_eq_none hge] at h; cases h
theorem Blk.cell (h : Blk w g t cs) (i : Nat) : w.cell? ⟨g, i, none⟩ = cs[i]? := cell_of_row w g i cs t (0, 0) h
theorem Blk.frozen (h : Blk w g t cs) (i : Nat) : w.frozen? ⟨g, i, none⟩ = false := by
  unfold Blk at h
  simp [World.frozen?, h]
theorem Blk.new (w : World) (t : TypeId) (cs : Array Value) : Blk (w.alloc (.cells cs t)) w.heap.size t cs := heap_alloc_new w _
theorem blk_new1 (w : World) (o : Obj) (t : TypeId) (cs : Array Value) : Blk ((w.alloc o).alloc (.cells cs t)) (w.heap.size + 1) t cs := by
  have := Blk.new (w.alloc o) t cs
  simpa using this
theorem Blk.drew (h : Blk w g t cs) : Blk w.drew g t cs := h
theorem Blk.drewN (h : Blk w g t cs) (n : Nat) : Blk (w.drewN n) g t cs := h
theorem Blk.alloc (h : Blk w g t cs) (o : Obj) : Blk (w.alloc o) g t cs := (Below.heap_alloc w o g h.lt).trans h
theorem Blk.set_ (h : Blk w g t cs) (i : Nat) (u : Value) : Blk (w.setCell ⟨g, i, none⟩ u) g t (cs.setIfInBounds i u) := by
  unfold Blk at h ⊢
  simp [World.setCell, Array.getElem?_modify, h]
theorem Blk.far (h : Blk w g t cs) {p : Addr} (hp : g ≠ p.block) (u : Value) : Blk (w.setCell p u) g t cs := (Below.heap_setCell w p u g hp).trans h
theorem Blk.below {B : Nat} (h : Blk w g t cs) (hb : Below B w w') (hg : g < B) : Blk w' g t cs := (hb.block g hg).trans h
theorem Blk.grown {row : Option Nat} (h : Blk w g t cs) (hb : w.grownBy w' row) (hg : some g ≠ row) : Blk w' g t cs := (hb.block g h.lt hg).trans h
theorem Blk.setRow (h : Blk w g t cs) (cs' : Array Value) : Blk (w.setRow g cs') g t cs' := setRow_heap w g cs cs' t (0, 0) h
theorem below_setRow' {B : Nat} {a : World} (h : Below B a w) (hg : B ≤ g) (cs' : Array Value) : Below B a (w.setRow g cs') :=
  h.trans ⟨rfl, rfl, rfl, by simp, fun k hk => setRow_other w g k cs' (by omega)⟩
end
/-- What the walk is told of a slice of integers that came in. -/
def IsRow (k : IntKind) (w : World) (a : Option Addr) (len cap : Nat) (zs : List Int) : Prop :=
  (a = none ∧ len = 0 ∧ cap = 0 ∧ zs = []) ∨
  ∃ x, a = some x ∧ len ≤ cap ∧ cap ≤ maxLen ∧ zs.length = cap ∧ (∀ i, i < zs.length → w.cell? (x.add i) = some (.int k (zs.getD i 0))) ∧ ∀ n ∈ zs, (Lit.int k n).wf = true
/-- a block that holds bytes, each of which may be written -/
def Byts (w : World) (g : Nat) (l : List UInt8) : Prop := ∃ (cs : Array Value) (t : TypeId) (fr : Nat × Nat), w.heap[g]? = some (.cells cs t fr) ∧ (∀ i, i < l.length → ¬ (fr.1 ≤ i ∧ i < fr.2)) ∧ ∀ i (h : i < l.length), cs[i]? = some (.int .u8 (l[i].toNat : Int))
section
variable {w w' : World} {g : Nat} {l : List UInt8}
theorem Byts.lt (h : Byts w g l) : g < w.heap.size := by
  obtain ⟨cs, t, fr, hg, _⟩ := h
  exact (Array.getElem?_eq_some_iff.1 hg).1
theorem Byts.cell (h : Byts w g l) (i : Nat) (hi : i < l.length) : w.cell? ⟨g, i, none⟩ = some (.int .u8 (l[i].toNat : Int)) := by
  obtain ⟨cs, t, fr, hg, _, hc⟩ := h
  rw [cell_of_row w g i cs t fr hg, hc i hi]
theorem Byts.frozen (h : Byts w g l) (i : Nat) (hi : i < l.length) : w.frozen? ⟨g, i, none⟩ = false := by
  obtain ⟨cs, t, fr, hg, hf, hc⟩ := h
  have := hf i hi
  simp [World.frozen?, hg]
  omega
theorem Byts.drew (h : Byts w g l) : Byts w.drew g l := h
theorem Byts.below {B : Nat} (h : Byts w g l) (hb : Below B w w') (hg : g < B) : Byts w' g l := by
  obtain ⟨cs, t, fr, he, r⟩ := h
  exact ⟨cs, t, fr, (hb.block g hg).trans he, r⟩
theorem Byts.alloc (h : Byts w g l) (o : Obj) : Byts (w.alloc o) g l := by
  have hl := h.lt
  obtain ⟨cs, t, fr, he, r⟩ := h
  exact ⟨cs, t, fr, (Below.heap_alloc w o g hl).trans he, r⟩
theorem Byts.set_ (h : Byts w g l) (i : Nat) (hi : i < l.length) (c : UInt8) : Byts (w.setCell ⟨g, i, none⟩ (.int .u8 (c.toNat : Int))) g (l.set i c) := by
  obtain ⟨cs, t, fr, hg, hf, hc⟩ := h
  refine ⟨cs.setIfInBounds i (.int .u8 (c.toNat : Int)), t, fr, ?_, by simpa using hf, ?_⟩
  · simp [World.setCell, Array.getElem?_modify, hg]
  · intro j hj
    have hj' : j < l.length := by simpa using hj
    rw [Array.getElem?_setIfInBounds]
    by_cases e : i = j
    · subst e
      have := hc i hi
      have hlt : i < cs.size := (Array.getElem?_eq_some_iff.1 this).1
      simp [hlt]
    · rw [if_neg e, hc j hj']
      simp [e]
theorem byts_new (w : World) (s : ByteArray) (cap : Nat) (e : TypeId) :
    Byts (w.drew.alloc (.cells (bytesRow s cap) e ((bytesRow s cap).size, (bytesRow s cap).size + 1))) w.heap.size s.data.toList := by
  refine ⟨_, _, _, heap_alloc_new w.drew _, ?_, ?_⟩
  · intro i hi
    have h2 : i < (bytesRow s cap).size := by
      have hi' : i < s.data.size := by simpa using hi
      simp only [bytesRow, Array.size_append, Array.size_map]; omega
    show ¬ ((bytesRow s cap).size ≤ i ∧ i < (bytesRow s cap).size + 1)
    omega
  · intro i hi
    have hi' : i < s.data.size := by simpa using hi
    have hs : i < s.size := hi'
    simp only [bytesRow, Array.getElem?_append, Array.size_map]
    rw [if_pos hi', Array.getElem?_map, Array.getElem?_eq_getElem hi']
    simp
end
theorem bt {a b c : World} (h : Below a.heap.size a b) (k : Below b.heap.size b c) : Below a.heap.size a c := h.trans (k.mono h.size)
theorem Blk.byts {w : World} {g : Nat} {t : TypeId} {cs : Array Value} {l : List UInt8} (h : Blk w g t cs) (hc : ∀ i (h : i < l.length), cs[i]? = some (.int .u8 (l[i].toNat : Int))) : Byts w g l :=
  ⟨cs, t, (0, 0), h, fun _ _ => by show ¬ (0 ≤ _ ∧ _ < 0); omega, hc⟩
theorem u8_xor_u (x y : UInt8) : bits .xor .u8 (x.toNat : Int) (y.toNat : Int) = ((x ^^^ y).toNat : Int) := by
  rw [u8_xor_nat _ _ x.toNat_lt y.toNat_lt, UInt8.toNat_xor]
theorem Byts.backk {P : Program} {w : World} {g : Nat} {l : List UInt8} (h : Byts w g l) (n cap : Nat) (hn : n ≤ l.length) (src dst e : TypeId) (hs : P.underlying src = some (.slice e)) (he : P.underlying e = some (.int .u8)) (hd : P.underlying dst = some .string) :
    (convert src dst (.slice (some ⟨g, 0, none⟩) n cap)).run P w = .ok (.string ⟨(l.take n).toArray⟩) w := by
  have hl : (l.take n).length = n := by rw [List.length_take]; omega
  have := run_convert_bytes_back (P := P) w src dst e ⟨g, 0, none⟩ cap (l.take n) hs he hd fun j hj => by
    have hj' : j < n := by omega
    have hadd : (⟨g, 0, none⟩ : Addr).add j = ⟨g, j, none⟩ := by unfold Addr.add; split <;> simp_all
    rw [hadd, h.cell j (by omega), List.getElem_take]
  rw [hl] at this
  exact this
theorem Byts.back {P : Program} {w : World} {g : Nat} {l : List UInt8} (h : Byts w g l) (n cap : Nat) (hn : l.length = n) (src dst e : TypeId) (hs : P.underlying src = some (.slice e)) (he : P.underlying e = some (.int .u8)) (hd : P.underlying dst = some .string) :
    (convert src dst (.slice (some ⟨g, 0, none⟩) n cap)).run P w = .ok (.string ⟨l.toArray⟩) w := by
  have := h.backk (P := P) n cap (by omega) src dst e hs he hd
  rw [List.take_of_length_le (by omega)] at this
  exact this
/-- only one block, and what is new, has turned: two steps -/
theorem gby_trans {a b c : World} {row : Option Nat} (h : a.grownBy b row) (k : b.grownBy c row) : a.grownBy c row :=
  ⟨k.os.trans h.os, k.tape.trans h.tape, k.output.trans h.output, Nat.le_trans h.size k.size, fun i hi hn => (k.block i (Nat.lt_of_lt_of_le hi h.size) hn).trans (h.block i hi hn)⟩
theorem gby_below {a b : World} (h : Below a.heap.size a b) (row : Option Nat) : a.grownBy b row := ⟨h.os, h.tape, h.output, h.size, fun i hi _ => h.block i hi⟩
theorem gby_refl (a : World) (row : Option Nat) : a.grownBy a row := ⟨rfl, rfl, rfl, Nat.le_refl _, fun _ _ _ => rfl⟩
theorem gby_setCell {a w : World} {g : Nat} (h : a.grownBy w (some g)) (i : Nat) (u : Value) : a.grownBy (w.setCell ⟨g, i, none⟩ u) (some g) :=
  ⟨h.os, h.tape, h.output, by simpa [World.setCell] using h.size, fun k hk hn => (Below.heap_setCell w ⟨g, i, none⟩ u k (fun e => hn (by rw [e]))).trans (h.block k hk hn)⟩
/-- what a call of one's own has turned lies from B on -/
theorem below_gby {B g : Nat} {a w w' : World} (h : Below B a w) (hg : w.grownBy w' (some g)) (hB : B ≤ w.heap.size) (hr : B ≤ g) : Below B a w' :=
  h.grown hg hB fun k hk => by injection hk with hk; omega
theorem below_drewN {B : Nat} {a w : World} (h : Below B a w) (n : Nat) : Below B a (w.drewN n) := ⟨h.os, h.tape, h.output, h.size, h.block⟩
theorem bcell {W w1 : World} (hb : Below W.heap.size W w1) : (∀ b o, b < W.heap.size → w1.cell? ⟨b, o, none⟩ = W.cell? ⟨b, o, none⟩) ∧ (∀ b o, b < W.heap.size → w1.frozen? ⟨b, o, none⟩ = W.frozen? ⟨b, o, none⟩) :=
  ⟨fun b o h => hb.cell (p := ⟨b, o, none⟩) h, fun b o h => hb.frozen (p := ⟨b, o, none⟩) h⟩
theorem ret_int {k : IntKind} {a b : Int} (h : a = b) : Ending.returned (.int k a) = .returned (.int k b) := by rw [h]
theorem ret_bool {a b : Bool} (h : a = b) : Ending.returned (.bool a) = .returned (.bool b) := by rw [h]
theorem ret_string {a b : ByteArray} (h : a = b) : Ending.returned (.string a) = .returned (.string b) := by rw [h]
end Go.Proofs.YtfdhehjfbcddgaaDoor
