/- The calls of layer 14's laws, their results as values with numbers of their own. Conditions: the nodes are not more than a million, nor is any name longer; the tables of unicode/utf8 lie in memory. -/
import Derived.Test.YtfdhehjfbcddgaaDoorTGrow
import Derived.Test.YtfdhehjfbcddgaaDoorTSame
namespace Go.Proofs.YtfdhehjfbcddgaaDoor.Pr
open Go.RowKit Go.Proofs.YtfdhehjfbcddgaaDoorW.PrintWords Go.Proofs.YtfdhehjfbcddgaaDoorW.PrintLast Go.Proofs.YtfdhehjfbcddgaaDoor
set_option linter.unusedVariables false
theorem snap_c {l : List Nd} {lv nx nw : Int} {nm : ByteArray} {pm : List Mg} {ps : List St} {er : Int} {n km ks : Nat} {A : Option Addr} {cap : Nat} {w : World} (h : snapN ⟨l, lv, nx, nw⟩ nm = (⟨pm, ps⟩, er)) (hn : l.length = n) (hm : pm.length = km) (hs : ps.length = ks) (hcp : n ≤ cap) (hr : NodesAt w A l) (hT : Tabs w) (hS : SmallT ⟨l, lv, nx, nw⟩) (hsz : nm.size ≤ 1000000) :
    Calls Tryd.prog 14 #[.agg #[.slice A n cap, .int .i64 lv, .int .i64 nx, .int .u64 nw], .string nm] w fun e w' => ∃ MA mc SA sc, e = .returned (.tuple #[.agg #[.slice MA km mc, .slice SA ks sc], .int .i64 er]) ∧ RowAt 58 encM w' MA pm ∧ RowAt 62 encS w' SA ps ∧ Below w.heap.size w w' := by
  subst hn hm hs
  refine (tsnap_any A cap l lv nx nw nm w hS.1 hcp hr hT hS.2 hsz).mono ?_
  rintro e w' ⟨v, rfl, hp, hb⟩
  rw [h] at hp ⊢
  obtain ⟨MA, mc, SA, sc, rfl, h1, h2⟩ := hp
  exact ⟨MA, mc, SA, sc, rfl, h1, h2, hb⟩
theorem rev_c {l : List Nd} {lv nx nw : Int} {a : Int} {pm : List Mg} {ps : List St} {er : Int} {n km ks : Nat} {A : Option Addr} {cap : Nat} {w : World} (h : revertN ⟨l, lv, nx, nw⟩ a = (⟨pm, ps⟩, er)) (hn : l.length = n) (hm : pm.length = km) (hs : ps.length = ks) (hcp : n ≤ cap) (hr : NodesAt w A l) (hT : Tabs w) (hS : SmallT ⟨l, lv, nx, nw⟩) :
    Calls Tryd.prog 34 #[.agg #[.slice A n cap, .int .i64 lv, .int .i64 nx, .int .u64 nw], .int .i64 a] w fun e w' => ∃ MA mc SA sc, e = .returned (.tuple #[.agg #[.slice MA km mc, .slice SA ks sc], .int .i64 er]) ∧ RowAt 58 encM w' MA pm ∧ RowAt 62 encS w' SA ps ∧ Below w.heap.size w w' := by
  subst hn hm hs
  refine (trevert_any A cap l lv nx nw a w hS.1 hcp hr hT hS.2).mono ?_
  rintro e w' ⟨v, rfl, hp, hb⟩
  rw [h] at hp ⊢
  obtain ⟨MA, mc, SA, sc, rfl, h1, h2⟩ := hp
  exact ⟨MA, mc, SA, sc, rfl, h1, h2, hb⟩
theorem del_c {l : List Nd} {lv nx nw : Int} {a : Int} {pm : List Mg} {ps : List St} {er : Int} {n km ks : Nat} {A : Option Addr} {cap : Nat} {w : World} (h : deleteN ⟨l, lv, nx, nw⟩ a = (⟨pm, ps⟩, er)) (hn : l.length = n) (hm : pm.length = km) (hs : ps.length = ks) (hcp : n ≤ cap) (hr : NodesAt w A l) (hT : Tabs w) (hS : SmallT ⟨l, lv, nx, nw⟩) :
    Calls Tryd.prog 22 #[.agg #[.slice A n cap, .int .i64 lv, .int .i64 nx, .int .u64 nw], .int .i64 a] w fun e w' => ∃ MA mc SA sc, e = .returned (.tuple #[.agg #[.slice MA km mc, .slice SA ks sc], .int .i64 er]) ∧ RowAt 58 encM w' MA pm ∧ RowAt 62 encS w' SA ps ∧ Below w.heap.size w w' := by
  subst hn hm hs
  refine (tdelete2_any A cap l lv nx nw a w hS.1 hcp hr hT hS.2).mono ?_
  rintro e w' ⟨v, rfl, hp, hb⟩
  rw [h] at hp ⊢
  obtain ⟨MA, mc, SA, sc, rfl, h1, h2⟩ := hp
  exact ⟨MA, mc, SA, sc, rfl, h1, h2, hb⟩
theorem plan_c {l : List Nd} {lv nx nw : Int} {a0 a1 a2 : Int} {a3 : ByteArray} {pm : List Mg} {ps : List St} {er : Int} {n km ks : Nat} {A : Option Addr} {cap : Nat} {w : World} (h : planN ⟨l, lv, nx, nw⟩ ⟨a0, a1, a2, a3⟩ = (⟨pm, ps⟩, er)) (hn : l.length = n) (hm : pm.length = km) (hs : ps.length = ks) (hcp : n ≤ cap) (hr : NodesAt w A l) (hT : Tabs w) (hS : SmallT ⟨l, lv, nx, nw⟩) (ha0 : I64 a0) (ha2 : I64 a2) (hsz : a3.size ≤ 1000000) :
    Calls Tryd.prog 12 #[.agg #[.slice A n cap, .int .i64 lv, .int .i64 nx, .int .u64 nw], .agg #[.int .i64 a0, .int .i64 a1, .int .i64 a2, .string a3]] w fun e w' => ∃ MA mc SA sc, e = .returned (.tuple #[.agg #[.slice MA km mc, .slice SA ks sc], .int .i64 er]) ∧ RowAt 58 encM w' MA pm ∧ RowAt 62 encS w' SA ps ∧ Below w.heap.size w w' := by
  subst hn hm hs
  refine (plan_any A cap l lv nx nw a0 a1 a2 a3 w hS.1 hcp hr hT hS.2 ha0 ha2 hsz).mono ?_
  rintro e w' ⟨v, rfl, hp, hb⟩
  rw [h] at hp ⊢
  obtain ⟨MA, mc, SA, sc, rfl, h1, h2⟩ := hp
  exact ⟨MA, mc, SA, sc, rfl, h1, h2, hb⟩
theorem done_c {l l' : List Nd} {lv nx nw lv' nx' nw' : Int} {ps : List St} {er : Int} {n n' km mc ks sc : Nat} {A MA SA : Option Addr} {cap : Nat} {w : World} (h : doneN ⟨l, lv, nx, nw⟩ ps = (⟨l', lv', nx', nw'⟩, er)) (hn : l.length = n) (hn' : l'.length = n') (hs : ps.length = ks) (hcp : n ≤ cap) (hr : NodesAt w A l) (hT : Tabs w) (hS : SmallT ⟨l, lv, nx, nw⟩) (hrow : RowAt 62 encS w SA ps) (hsl : ks ≤ 1099511627776) (hst : ∀ s ∈ ps, s.text.size ≤ 1000000) :
    Calls Tryd.prog 13 #[.agg #[.slice A n cap, .int .i64 lv, .int .i64 nx, .int .u64 nw], .agg #[.slice MA km mc, .slice SA ks sc]] w fun e w' => ∃ A2 c2, e = .returned (.tuple #[.agg #[.slice A2 n' c2, .int .i64 lv', .int .i64 nx', .int .u64 nw'], .int .i64 er]) ∧ n' ≤ c2 ∧ NodesAt w' A2 l' ∧ Below w.heap.size w w' := by
  subst hn hn' hs
  refine (done_any A cap l lv nx nw MA km mc SA sc ps w hS.1 hcp hr hT hS.2 hrow hsl hst).mono ?_
  rintro e w' ⟨v, rfl, hp, hb⟩
  rw [h] at hp ⊢
  obtain ⟨A2, c2, rfl, h1, h2⟩ := hp
  exact ⟨A2, c2, rfl, h1, h2, hb⟩
theorem apply_c {l l' : List Nd} {lv nx nw lv' nx' nw' kd a b sn : Int} {tx : ByteArray} {er : Int} {n n' : Nat} {A : Option Addr} {cap : Nat} {w : World} (h : applyN ⟨l, lv, nx, nw⟩ ⟨kd, a, b, sn, tx⟩ = (⟨l', lv', nx', nw'⟩, er)) (hn : l.length = n) (hn' : l'.length = n') (hcp : n ≤ cap) (hr : NodesAt w A l) (hT : Tabs w) (hS : SmallT ⟨l, lv, nx, nw⟩) (htx : tx.size ≤ 1000000) :
    Calls Tryd.prog 21 #[.agg #[.slice A n cap, .int .i64 lv, .int .i64 nx, .int .u64 nw], .agg #[.int .i64 kd, .int .i64 a, .int .i64 b, .int .u64 sn, .string tx]] w fun e w' => ∃ A2 c2, e = .returned (.tuple #[.agg #[.slice A2 n' c2, .int .i64 lv', .int .i64 nx', .int .u64 nw'], .int .i64 er]) ∧ n' ≤ c2 ∧ NodesAt w' A2 l' ∧ Below w.heap.size w w' := by
  subst hn hn'
  refine (tapply_any A cap l lv nx nw kd a b sn tx w hS.1 hcp hr hT hS.2 htx).mono ?_
  rintro e w' ⟨v, rfl, hp, hb⟩
  rw [h] at hp ⊢
  obtain ⟨A2, c2, rfl, h1, h2⟩ := hp
  exact ⟨A2, c2, rfl, h1, h2, hb⟩
theorem grown_c {l : List Ac} {l' : List Nd} {lv' nx' nw' : Int} {n n' : Nat} {A : Option Addr} {cap : Nat} {w : World} (h : grownN l = ⟨l', lv', nx', nw'⟩) (hn : l.length = n) (hn' : l'.length = n') (hl : n ≤ 1000000) (hr : ActsAt w A l) (hT : Tabs w) (hok : ∀ a ∈ l, AcOk a) (hnm : ∀ a ∈ l, a.name.size ≤ 1000000) :
    Calls Tryd.prog 18 #[.slice A n cap] w fun e w' => ∃ A2 c2, e = .returned (.agg #[.slice A2 n' c2, .int .i64 lv', .int .i64 nx', .int .u64 nw']) ∧ n' ≤ c2 ∧ NodesAt w' A2 l' ∧ Below w.heap.size w w' := by
  subst hn hn'
  refine (grown_any A cap l w hl hr hT hok hnm).mono ?_
  rintro e w' ⟨v, rfl, hp, hb⟩
  rw [h] at hp
  obtain ⟨A2, c2, rfl, h1, h2⟩ := hp
  exact ⟨A2, c2, rfl, h1, h2, hb⟩
theorem find_c {l : List Nd} {lv nx nw a : Int} {n : Nat} {A : Option Addr} {cap : Nat} {w : World} {x0 x1 x3 : Int} {x2 : ByteArray} {x4 x5 is : Bool} (h : findN l a = (⟨x0, x1, x2, x3, x4, x5⟩, is)) (hn : l.length = n) (hl : n ≤ 1000000) (hr : NodesAt w A l) :
    Calls Tryd.prog 17 #[.agg #[.slice A n cap, .int .i64 lv, .int .i64 nx, .int .u64 nw], .int .i64 a] w fun e w' => e = .returned (.tuple #[.agg #[.int .i64 x0, .int .i64 x1, .string x2, .int .u64 x3, .bool x4, .bool x5], .bool is]) ∧ Below w.heap.size w w' := by
  subst hn
  refine (find_any A cap l lv nx nw a w hl hr).mono ?_
  rintro e w' ⟨rfl, hb⟩
  rw [h]
  exact ⟨rfl, hb⟩
theorem as_c {l : List Nd} {lv nx nw : Int} {n : Nat} {A : Option Addr} {cap : Nat} {w : World} (hn : l.length = n) (hl : n ≤ 1000000) (hr : NodesAt w A l) :
    Calls Tryd.prog 16 #[.agg #[.slice A n cap, .int .i64 lv, .int .i64 nx, .int .u64 nw]] w fun e w' => ∃ B cb, e = .returned (.agg #[.slice B n cb, .int .i64 lv, .int .i64 nx, .int .u64 nw]) ∧ RefsAt w' B l ∧ Below w.heap.size w w' := by
  subst hn
  refine (as_any A cap l lv nx nw w hl hr).mono ?_
  rintro e w' ⟨v, rfl, hp, hb⟩
  obtain ⟨B, cb, rfl, h1⟩ := hp
  exact ⟨B, cb, rfl, h1, hb⟩
theorem same_c {l : List Nd} {lv nx nw : Int} {n : Nat} {A B : Option Addr} {cap cb : Nat} {w : World} (hn : l.length = n) (hl : n ≤ 1000000) (hr : NodesAt w A l) (hq : RefsAt w B l) :
    Calls Tryd.prog 15 #[.agg #[.slice A n cap, .int .i64 lv, .int .i64 nx, .int .u64 nw], .agg #[.slice B n cb, .int .i64 lv, .int .i64 nx, .int .u64 nw]] w fun e w' => e = .returned (.bool true) ∧ Below w.heap.size w w' := by
  subst hn
  exact same_any A cap l lv nx nw B cb w hl hr hq
theorem right_c {l : List Nd} {lv nx nw : Int} {n : Nat} {A : Option Addr} {cap : Nat} {w : World} {b : Bool} (h : rightN ⟨l, lv, nx, nw⟩ = b) (hn : l.length = n) (hcp : n ≤ cap) (hr : NodesAt w A l) (hT : Tabs w) (hS : SmallT ⟨l, lv, nx, nw⟩) :
    Calls Tryd.prog 32 #[.agg #[.slice A n cap, .int .i64 lv, .int .i64 nx, .int .u64 nw]] w fun e w' => e = .returned (.bool b) ∧ Below w.heap.size w w' := by
  subst hn h
  exact tright_any A cap l lv nx nw w hS.1 hcp hr hT hS.2
theorem RowAt.set2 {α : Type} {ty : TypeId} {enc : α → List Value} {w : World} {A : Option Addr} {l : List α} {c : Nat} {ty2 : TypeId} {cs : Array Value} (h : RowAt ty enc w A l) (hk : Blk w c ty2 cs) (ht : ty2 ≠ ty) (v0 v1 : Value) : RowAt ty enc ((w.setCell ⟨c, 0, none⟩ v0).setCell ⟨c, 1, none⟩ v1) A l :=
  (h.setB hk ht 0 v0).setB (hk.set_ 0 v0) ht 1 v1
theorem RowAt.set4 {α : Type} {ty : TypeId} {enc : α → List Value} {w : World} {A : Option Addr} {l : List α} {c : Nat} {ty2 : TypeId} {cs : Array Value} (h : RowAt ty enc w A l) (hk : Blk w c ty2 cs) (ht : ty2 ≠ ty) (v0 v1 v2 v3 : Value) : RowAt ty enc ((((w.setCell ⟨c, 0, none⟩ v0).setCell ⟨c, 1, none⟩ v1).setCell ⟨c, 2, none⟩ v2).setCell ⟨c, 3, none⟩ v3) A l :=
  ((h.set2 hk ht v0 v1).setB ((hk.set_ 0 v0).set_ 1 v1) ht 2 v2).setB (((hk.set_ 0 v0).set_ 1 v1).set_ 2 v2) ht 3 v3
theorem blk_put4 {w : World} {c : Nat} {ty : TypeId} {u0 u1 u2 u3 : Value} (h : Blk w c ty #[u0, u1, u2, u3]) (v0 v1 v2 v3 : Value) : Blk ((((w.setCell ⟨c, 0, none⟩ v0).setCell ⟨c, 1, none⟩ v1).setCell ⟨c, 2, none⟩ v2).setCell ⟨c, 3, none⟩ v3) c ty #[v0, v1, v2, v3] :=
  (((h.set_ 0 v0).set_ 1 v1).set_ 2 v2).set_ 3 v3
theorem below_set4 {B : Nat} {w w1 : World} (h : Below B w w1) {c : Nat} (hc : B ≤ c) (v0 v1 v2 v3 : Value) : Below B w ((((w1.setCell ⟨c, 0, none⟩ v0).setCell ⟨c, 1, none⟩ v1).setCell ⟨c, 2, none⟩ v2).setCell ⟨c, 3, none⟩ v3) :=
  (((h.setCell (p := ⟨c, 0, none⟩) hc v0).setCell (p := ⟨c, 1, none⟩) hc v1).setCell (p := ⟨c, 2, none⟩) hc v2).setCell (p := ⟨c, 3, none⟩) hc v3
end Go.Proofs.YtfdhehjfbcddgaaDoor.Pr
