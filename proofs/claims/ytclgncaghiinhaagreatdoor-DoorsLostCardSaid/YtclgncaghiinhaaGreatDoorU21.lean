/- Contracts of package lock: Power, New. -/
import Derived.Test.YtclgncaghiinhaaGreatDoorU10
import Derived.Test.YtclgncaghiinhaaGreatDoorU11
import Derived.Test.YtclgncaghiinhaaGreatDoorU17
import Derived.Test.YtclgncaghiinhaaGreatDoorU18
import Derived.Test.YtclgncaghiinhaaGreatDoorU19
import Derived.Test.YtclgncaghiinhaaGreatDoorU20
set_option linter.unusedSimpArgs false
set_option linter.unusedVariables false
set_option maxRecDepth 100000
namespace Go.Proofs.YtclgncaghiinhaaGreatDoor
open Go.RowKit
theorem SlotArg.below {w w' : World} {A : Option Addr} {n cap : Nat} {x : Slt} (h : SlotArg w A n cap x) (hb : Below w.heap.size w w') : SlotArg w' A n cap x := ⟨h.len, h.s, h.c, h.ints.below hb, h.room, h.max, h.fit, h.u⟩
theorem mkS_len (s c : Int) (l : List Int) : (mkS s c l).l.length ≤ 500 := by
 unfold mkS
 by_cases h : mkE s c l = 0
 ·rw [if_pos h]
  unfold mkE at h
  by_cases h5 : 500 < l.length
  ·rw [if_pos h5] at h; omega
  ·simp only [Slt.made]; omega
 ·rw [if_neg h]; simp [Slt.zero]
theorem wrE_len {x y : Slt} {c a : Int} {l : List Int} (h : wrE x y c l a = 0) : l.length ≤ 500 := by
 unfold wrE at h
 by_cases h5 : l.length > 500
 ·rw [if_pos h5] at h; omega
 ·omega
theorem wr_props {x y : Slt} {c a : Int} {l : List Int} (h : wrE x y c l a = 0) : fldB 0 c l = true ∧ topS x y ≠ 1000000000 ∧ (0 ≤ a ∧ a ≤ 3) ∧ l.length ≤ 500 := by
 have hl := wrE_len h
 unfold wrE at h
 rw [if_neg (by omega)] at h
 cases hF : fldB 0 c l with
 | false => rw [if_pos hF] at h; omega
 | true =>
  rw [if_neg (by simp [hF])] at h
  cases ha : wB a 0 3 with
  | false => rw [if_pos ha] at h; omega
  | true =>
   rw [if_neg (by simp [ha])] at h
   by_cases ht : topS x y = 1000000000
   ·rw [if_pos ht] at h; omega
   ·exact ⟨rfl, ht, wB_iff.1 ha, hl⟩
theorem top_in (x y : Slt) : 0 ≤ topS x y ∧ topS x y ≤ 1000000000 := by
 unfold topS
 cases hb : bestB x y with
 | false => rw [if_neg (by simp)]; omega
 | true =>
  rw [if_pos rfl]
  rcases bestI_01 x y with hI | hI
  ·rw [if_neg (by omega)]; exact ok_s (best_ok0 hb hI)
  ·rw [if_pos hI]; exact ok_s (best_ok1 hI)
theorem fld_top {x y : Slt} {c a : Int} {l : List Int} (h : wrE x y c l a = 0) : fldB (topS x y + 1) c l = true := by
 obtain ⟨h1, h2, _⟩ := wr_props h
 have h3 := top_in x y
 rw [fldB_iff] at h1 ⊢
 exact ⟨⟨by omega, h1.1.2⟩, h1.2⟩
/-- the fields of a slot are integers -/
structure SFit (x : Slt) : Prop where
 s : -9223372036854775808 ≤ x.s ∧ x.s ≤ 9223372036854775807
 c : -9223372036854775808 ≤ x.c ∧ x.c ≤ 9223372036854775807
 fit : Fit x.l
 u : 0 ≤ x.u ∧ x.u ≤ 18446744073709551615
 few : x.l.length ≤ 500
theorem sfit_zero : SFit Slt.zero := ⟨by simp only [Slt.zero]; omega, by simp only [Slt.zero]; omega, fun x hx => by simp [Slt.zero] at hx, by simp only [Slt.zero]; omega, by simp [Slt.zero]⟩
theorem sfit_wrS {x y : Slt} {c a : Int} {l : List Int} (h : wrE x y c l a = 0) (hf : Fit l) : SFit (wrS x y c l a) := by
 have h1 := fld_top h
 rw [fldB_iff] at h1
 have hu := sumS_in (topS x y + 1) c l
 refine ⟨?_, ?_, hf, ?_, wrE_len h⟩
 ·simp only [wrS]; omega
 ·simp only [wrS]; omega
 ·simp only [wrS]; split <;> omega
theorem sfit_wr {x y : Slt} {c a : Int} {l : List Int} (hx : SFit x) (hy : SFit y) (hf : Fit l) : SFit (wr0 x y c l a) ∧ SFit (wr1 x y c l a) := by
 unfold wr0 wr1
 by_cases h : wrE x y c l a = 0
 ·rw [if_pos h, if_pos h]
  constructor
  ·split
   ·exact sfit_wrS h hf
   ·exact hx
  ·split
   ·exact sfit_wrS h hf
   ·exact hy
 ·rw [if_neg h, if_neg h]; exact ⟨sfit_zero, sfit_zero⟩
theorem SFit.is {x : Slt} (h : SFit x) {w : World} {A : Option Addr} (hl : IntsAt w A .i64 x.l) : SlotIs w A x.l.length x := ⟨rfl, h.s, h.c, hl, by have := h.few; omega, h.fit, h.u⟩
theorem SlotArg.sfit {w : World} {A : Option Addr} {n cap : Nat} {x : Slt} (h : SlotArg w A n cap x) (hn : n ≤ 40) : SFit x := ⟨h.s, h.c, h.fit, h.u, by have := h.len; omega⟩
/-- what a write makes of two slots of which the first one is the best -/
theorem stays0 {x y : Slt} {c a : Int} {l : List Int} (h : wrE x y c l a = 0) (hb : bestB x y = true) (hI : bestI x y = 0) :
  wr0 x y c l a = x ∧ bestB x (wr1 x y c l a) = true ∧ (a < 2 → bestI x (wr1 x y c l a) = 0) ∧ (2 ≤ a → bestI x (wr1 x y c l a) = 1 ∧ saysS (wr1 x y c l a) c l = true ∧ (wr1 x y c l a).s = x.s + 1) := by
 have hx := best_ok0 hb hI
 have hp := (wr_props h).2.2.1
 have hi : into0 x y = false := by simp [into0, hb, hI]
 have ht : topS x y = x.s := by simp [topS, hb, hI]
 have hF := fld_top h
 rw [ht] at hF
 have e0 : wr0 x y c l a = x := by rw [wr0, if_pos h, if_neg (by simp [hi])]
 refine ⟨e0, by simp [bestB, hx], fun h2 => ?_, fun h2 => ?_⟩
 ·by_cases ha : a = 0
  ·have : wr1 x y c l a = y := by rw [wr1, if_pos h, if_neg (by simp [ha])]
   rw [this]; exact hI
  ·have ha1 : a = 1 := by omega
   have : wr1 x y c l a = ⟨x.s + 1, c, l, (sumS (x.s + 1) c l + 1) % 18446744073709551616⟩ := by rw [wr1, if_pos h, if_pos ⟨hi, ha⟩, wrS, ht, if_pos ha1]
   rw [this, bestI, torn_ok]; simp
 ·have : wr1 x y c l a = Slt.made (x.s + 1) c l := by rw [wr1, if_pos h, if_pos ⟨hi, by omega⟩, wrS, ht, if_neg (by omega)]; rfl
  rw [this]
  refine ⟨?_, saysS_iff.2 ⟨rfl, rfl⟩, rfl⟩
  have hd : decide (x.s < (Slt.made (x.s + 1) c l).s) = true := decide_eq_true (by simp only [Slt.made]; omega)
  rw [bestI, made_ok hF, hd]; simp
theorem stays1 {x y : Slt} {c a : Int} {l : List Int} (h : wrE x y c l a = 0) (hb : bestB x y = true) (hI : bestI x y = 1) :
  wr1 x y c l a = y ∧ bestB (wr0 x y c l a) y = true ∧ (a < 2 → bestI (wr0 x y c l a) y = 1) ∧ (2 ≤ a → bestI (wr0 x y c l a) y = 0 ∧ saysS (wr0 x y c l a) c l = true ∧ (wr0 x y c l a).s = y.s + 1) := by
 have hy := best_ok1 hI
 have hp := (wr_props h).2.2.1
 have hi : into0 x y = true := by simp [into0, hI]
 have ht : topS x y = y.s := by simp [topS, hb, hI]
 have hF := fld_top h
 rw [ht] at hF
 have e0 : wr1 x y c l a = y := by rw [wr1, if_pos h, if_neg (by simp [hi])]
 refine ⟨e0, by simp [bestB, hy], fun h2 => ?_, fun h2 => ?_⟩
 ·by_cases ha : a = 0
  ·have : wr0 x y c l a = x := by rw [wr0, if_pos h, if_neg (by simp [ha])]
   rw [this]; exact hI
  ·have ha1 : a = 1 := by omega
   have : wr0 x y c l a = ⟨y.s + 1, c, l, (sumS (y.s + 1) c l + 1) % 18446744073709551616⟩ := by rw [wr0, if_pos h, if_pos ⟨hi, ha⟩, wrS, ht, if_pos ha1]
   rw [this, bestI, torn_ok, hy]; simp
 ·have : wr0 x y c l a = Slt.made (y.s + 1) c l := by rw [wr0, if_pos h, if_pos ⟨hi, by omega⟩, wrS, ht, if_neg (by omega)]; rfl
  rw [this]
  refine ⟨?_, saysS_iff.2 ⟨rfl, rfl⟩, rfl⟩
  have hd : decide ((Slt.made (y.s + 1) c l).s < y.s) = false := decide_eq_false (by simp only [Slt.made]; omega)
  rw [bestI, made_ok hF, hd]; simp
def rs (st : List Int × Int) (x : Int) : List Int × Int := if st.2 < x then (st.1 ++ [x], x) else st
def rise (l : List Int) : List Int × Int := l.foldl rs ([], 0)
section
open Go.RowKit Go.ChangeShapes Go.WideShapes Go.ChangeAt
/-- a write: a counter, bytes, a moment -/
structure Dd where
 c : Int
 l : List Int
 a : Int
def DdAt (w : World) (cs : List Value) (d : Dd) : Prop :=
 ∃ B cap, cs = [.int .u16 d.c, .slice B d.l.length cap, .int .u8 d.a] ∧ IntsAt w B .u8 d.l ∧ d.l.length ≤ cap ∧ cap ≤ 9223372036854775807 ∧ (0 ≤ d.c ∧ d.c ≤ 65535) ∧ (0 ≤ d.a ∧ d.a ≤ 255) ∧ ∀ x ∈ d.l, 0 ≤ x ∧ x ≤ 255
theorem DdAt.below {w w' : World} (hb : Below w.heap.size w w') (cs : List Value) (d : Dd) (h : DdAt w cs d) : DdAt w' cs d := by
 obtain ⟨B, cap, e, hi, h1, h2, h3, h4, h5⟩ := h
 exact ⟨B, cap, e, hi.below hb, h1, h2, h3, h4, h5⟩
end
theorem write2_ok (x y : Slt) (c at_ : Int) (A : Option Addr) (n p : Nat) (B : Option Addr) (m q : Nat) (D : Option Addr) (k r : Nat) (l : List Int) (hlk : l.length = k) (w : World) (hx : SlotIs w A n x) (hy : SlotIs w B m y) (hc : -9223372036854775808 ≤ c ∧ c ≤ 9223372036854775807) (hl : IntsAt w D .i64 l) (hf : Fit l) (ht : Tab w) (e : wrE x y c l at_ = 0) :
  Calls Tryz.prog 106 #[.agg #[.int .i64 x.s, .int .i64 x.c, .slice A n p, .int .u64 x.u, .int .i64 y.s, .int .i64 y.c, .slice B m q, .int .u64 y.u], .int .i64 c, .slice D k r, .int .i64 at_] w (SlotsErr2 A x.l B y.l (wr0 x y c l at_) (wr1 x y c l at_) 0 w) := by
 obtain ⟨hF, ht0, ha, hl5⟩ := wr_props e
 have h3 : at_ = 0 ∨ at_ = 1 ∨ at_ = 2 ∨ at_ = 3 := by omega
 cases hE : bestB x y with
 | false => exact write2_none x y c at_ A n p B m q D k r l hlk w hx hy hc hl (by omega) hf ht hF hE h3 (by omega) (by omega) e
 | true =>
  rcases bestI_01 x y with hI | hI
  ·have et : topS x y = x.s := by simp [topS, hE, hI]
   rw [et] at ht0
   exact write2_b0 x y c at_ A n p B m q D k r l hlk w hx hy hc hl (by omega) hf ht hF hE hI h3 ht0 (ok_s (best_ok0 hE hI)) e
  ·have et : topS x y = y.s := by simp [topS, hE, hI]
   rw [et] at ht0
   exact write2_b1 x y c at_ A n p B m q D k r l hlk w hx hy hc hl (by omega) hf ht hF hE hI h3 ht0 (ok_s (best_ok1 hI)) e
def Lk.zero : Lk := ⟨0, 0, 0, Slt.zero, Slt.zero, false⟩
/-- a lock and an error number, the lists' places known -/
def LockErr (A0 : Option Addr) (l0 : List Int) (B0 : Option Addr) (m0 : List Int) (r : Lk) (E : Int) (w : World) (e : Ending) (w' : World) : Prop :=
 ∃ A p B q, e = .returned (.tuple #[.agg (r.cells A r.x.l.length p B r.y.l.length q).toArray, .int .i64 E]) ∧ Prov w w' A0 l0 A r.x.l ∧ Prov w w' B0 m0 B r.y.l ∧ Below w.heap.size w w'
theorem prov_nil (w w' : World) (A0 : Option Addr) (l0 : List Int) (A : Option Addr) : Prov w w' A0 l0 A [] := ⟨fun i hi => absurd hi (by simp), .inl rfl⟩
theorem lockErr_zero {A0 : Option Addr} {l0 : List Int} {B0 : Option Addr} {m0 : List Int} {E : Int} {w w' : World} (hb : Below w.heap.size w w') :
  LockErr A0 l0 B0 m0 Lk.zero E w (.returned (.tuple #[.agg #[.int .i64 0, .int .i64 0, .int .i64 0, .int .i64 0, .int .i64 0, .slice none 0 0, .int .u64 0, .int .i64 0, .int .i64 0, .slice none 0 0, .int .u64 0, .bool false], .int .i64 E])) w' :=
 ⟨none, 0, none, 0, rfl, prov_nil _ _ _ _ _, prov_nil _ _ _ _ _, hb⟩
/-- what Power returns -/
def pwR (l : Lk) (u : Bool) : Lk := if lvB l = true then { l with up := u } else Lk.zero
def pwE (l : Lk) : Int := if lvB l = true then 0 else 1
set_option maxHeartbeats 4000000 in
theorem lpower_any (l : Lk) (u : Bool) (A : Option Addr) (n p : Nat) (B : Option Addr) (m q : Nat) (w : World) (hx : SlotIs w A n l.x) (hy : SlotIs w B m l.y) (ht : Tab w) :
  Calls Tryz.prog 86 #[.agg (l.cells A n p B m q).toArray, .bool u] w (LockErr A l.x.l B l.y.l (pwR l u) (pwE l) w) := by
 obtain ⟨w0, hw0⟩ : ∃ W, (w.alloc (.cells (l.cells A n p B m q).toArray 48)).alloc (.cells #[.int .i64 0, .int .i64 0, .int .i64 0, .int .i64 0, .int .i64 0, .slice none 0 0, .int .u64 0, .int .i64 0, .int .i64 0, .slice none 0 0, .int .u64 0, .bool false] 48) = W := ⟨_, rfl⟩
 have bb0 : Below w.heap.size w w0 := by rw [← hw0]; exact ((Below.refl _ _).alloc (Nat.le_refl _) _).alloc (by simp) _
 have k0 : Blk w0 w.heap.size (l.cells A n p B m q).toArray := by rw [← hw0]; exact (blk_new rfl).alloc _
 have g0 : Blk w0 (w.heap.size + 1) #[.int .i64 0, .int .i64 0, .int .i64 0, .int .i64 0, .int .i64 0, .slice none 0 0, .int .u64 0, .int .i64 0, .int .i64 0, .slice none 0 0, .int .u64 0, .bool false] := by rw [← hw0]; exact blk_new (by simp)
 have q1 := lvalid_any l A n p B m q w0 (hx.below bb0) (hy.below bb0) (ht.below bb0)
 cases hv : lvB l with
 | false =>
  have e1 : pwR l u = Lk.zero := by simp [pwR, hv]
  have e2 : pwE l = 1 := by simp [pwE, hv]
  rw [hv] at q1
  rw [e1, e2]
  unfold Lk.cells at k0 hw0 q1 ⊢
  have ⟨Hbb0, Hk0, Hg0, Hhw0, Hq1, Hhx, Hhy, Hht⟩ := hid8 bb0 k0 g0 hw0 q1 hx hy ht; clear bb0 k0 g0 hw0 q1 hx hy ht
  go_enter Tryz.func86, Tryz.ntmps86
  go_wp2_with fail
  rw [Hhw0.out]
  obtain ⟨y0, y1, y2, y3, y4, y5, y6, y7, y8, y9, y10, y11⟩ := at12_of Hk0.out
  go_wp2_with fail
  (with_reducible refine (Hq1.out).mono ?_)
  rintro e w1 ⟨rfl, b1⟩
  have c1 : Below w0.heap.size w0 w1 := Below.trans belt (b1.mono omh)
  have s1 := c1.size
  have bb1 := Hbb0.out.trans (c1.mono Hbb0.out.size)
  have k1 := Hk0.out.below c1
  have g1 := Hg0.out.below c1
  have ⟨Hb1, Hc1, Hbb1, Hk1, Hg1⟩ := hid5 b1 c1 bb1 k1 g1; clear b1 c1 bb1 k1 g1
  clear y0 y1 y2 y3 y4 y5 y6 y7 y8 y9 y10 y11
  obtain ⟨z0, z1, z2, z3, z4, z5, z6, z7, z8, z9, z10, z11⟩ := at12_of Hg1.out
  have lz := (Hg1.out 0 _ rfl).lt
  have b2 : Below w.heap.size w (putL w1 (w.heap.size + 1) 0 [.int .i64 0, .int .i64 0, .int .i64 0, .int .i64 0, .int .i64 0, .slice none 0 0, .int .u64 0, .int .i64 0, .int .i64 0, .slice none 0 0, .int .u64 0, .bool false]) := putL_below (by omega) _ _ _ Hbb1.out
  simp only [putL, Nat.reduceAdd] at b2
  have Hb2 := Lib.hid b2; clear b2
  obtain ⟨f0, f1, f2, f3, f4, f5, f6, f7, f8, f9, f10, f11⟩ := free12_of Hg1.out
  go_wp2_with fail
  refine bodyPost_ret (v := .tuple #[.agg #[.int .i64 0, .int .i64 0, .int .i64 0, .int .i64 0, .int .i64 0, .slice none 0 0, .int .u64 0, .int .i64 0, .int .i64 0, .slice none 0 0, .int .u64 0, .bool false], .int .i64 1]) (by simp [results, Tryz.results86, go_sem, *]) rfl (lockErr_zero Hb2.out)
 | true =>
  have e1 : pwR l u = { l with up := u } := by simp [pwR, hv]
  have e2 : pwE l = 0 := by simp [pwE, hv]
  have hn := hx.len
  have hm := hy.len
  subst hn hm
  rw [hv] at q1
  rw [e1, e2]
  unfold LockErr Lk.cells
  unfold Lk.cells at k0 hw0 q1
  have ⟨Hbb0, Hk0, Hg0, Hhw0, Hq1, Hhx, Hhy, Hht⟩ := hid8 bb0 k0 g0 hw0 q1 hx hy ht; clear bb0 k0 g0 hw0 q1 hx hy ht
  go_enter Tryz.func86, Tryz.ntmps86
  go_wp2_with fail
  rw [Hhw0.out]
  obtain ⟨y0, y1, y2, y3, y4, y5, y6, y7, y8, y9, y10, y11⟩ := at12_of Hk0.out
  go_wp2_with fail
  (with_reducible refine (Hq1.out).mono ?_)
  rintro e w1 ⟨rfl, b1⟩
  have c1 : Below w0.heap.size w0 w1 := Below.trans belt (b1.mono omh)
  have s1 := c1.size
  have bb1 := Hbb0.out.trans (c1.mono Hbb0.out.size)
  have k1 := Hk0.out.below c1
  have g1 := Hg0.out.below c1
  have ⟨Hb1, Hc1, Hbb1, Hk1, Hg1⟩ := hid5 b1 c1 bb1 k1 g1; clear b1 c1 bb1 k1 g1
  clear y0 y1 y2 y3 y4 y5 y6 y7 y8 y9 y10 y11
  obtain ⟨y0, y1, y2, y3, y4, y5, y6, y7, y8, y9, y10, y11⟩ := at12_of Hk1.out
  obtain ⟨z0, z1, z2, z3, z4, z5, z6, z7, z8, z9, z10, z11⟩ := at12_of Hg1.out
  have ly := (Hk1.out 0 _ rfl).lt
  have lz := (Hg1.out 0 _ rfl).lt
  have b2 : Below w.heap.size w (putL (putL w1 w.heap.size 11 [.bool u]) (w.heap.size + 1) 0 [.int .i64 l.d, .int .i64 l.k, .int .i64 l.r, .int .i64 l.x.s, .int .i64 l.x.c, .slice A l.x.l.length p, .int .u64 l.x.u, .int .i64 l.y.s, .int .i64 l.y.c, .slice B l.y.l.length q, .int .u64 l.y.u, .bool u]) := putL_below (by omega) _ _ _ (putL_below (Nat.le_refl _) _ _ _ Hbb1.out)
  simp only [putL, Nat.reduceAdd] at b2
  have Hb2 := Lib.hid b2; clear b2
  have fk := (Hk1.out 11 _ rfl).free
  obtain ⟨f0, f1, f2, f3, f4, f5, f6, f7, f8, f9, f10, f11⟩ := free12_of Hg1.out
  go_wp2_with fail
  refine bodyPost_ret (v := .tuple #[.agg #[.int .i64 l.d, .int .i64 l.k, .int .i64 l.r, .int .i64 l.x.s, .int .i64 l.x.c, .slice A l.x.l.length p, .int .u64 l.x.u, .int .i64 l.y.s, .int .i64 l.y.c, .slice B l.y.l.length q, .int .u64 l.y.u, .bool u], .int .i64 0]) (by simp [results, Tryz.results86, go_sem, *]) rfl ⟨A, p, B, q, rfl, prov_old (Hhx.out.below Hb2.out).ints, prov_old (Hhy.out.below Hb2.out).ints, Hb2.out⟩
end Go.Proofs.YtclgncaghiinhaaGreatDoor
