/- Package doors: locks that are not valid. -/
import Derived.Deep.CutRange
import Derived.Test.YtclgncaghiinhaaGreatDoorT13
import Derived.Test.YtclgncaghiinhaaGreatDoorT21
import Derived.Test.YtclgncaghiinhaaGreatDoorT31
import Derived.Test.YtclgncaghiinhaaGreatDoorT32
import Derived.Test.YtclgncaghiinhaaGreatDoorT34
import Derived.Test.YtclgncaghiinhaaGreatDoorT35
set_option linter.unusedSimpArgs false
set_option linter.unusedVariables false
set_option maxRecDepth 100000
namespace Go.Proofs.YtclgncaghiinhaaGreatDoor
open Go.RowKit
section
open Go.RowKit Go.Maps
/-- the card of a guest that was not signed -/
def gst (id door n : Int) : Crd := ⟨id, 1, door, n, 100, 900, 0, 0, 0⟩
theorem gst_v {id door n : Int} {e s : Int} (h1 : 1 ≤ id ∧ id ≤ 1000000) (h2 : 1 ≤ door ∧ door ≤ 400) (h3 : 1 ≤ n ∧ n ≤ 1000000000) (he : 0 ≤ e ∧ e < 1073741789) (hs : 0 ≤ s ∧ s < 1073741789) : cvB ((gst id door n).sig e s) = true := by
 exact cvB_iff.2 ⟨⟨he, hs, h1, by simp [gst, Crd.sig], by simp [gst, Crd.sig], by simp [gst, Crd.sig]⟩, .inl ⟨rfl, h2, h3, rfl⟩⟩
theorem sig_nat {s o : Nat} {l : List Int} : (0 ≤ ((sigE s o l : Nat) : Int) ∧ ((sigE s o l : Nat) : Int) < 1073741789) ∧ 0 ≤ ((sigS s o l : Nat) : Int) ∧ ((sigS s o l : Nat) : Int) < 1073741789 := by
 have h1 := sigE_lt s o l
 have h2 := sigS_lt s o l
 have : QQ = 1073741789 := rfl
 omega
theorem chk_right {c : Crd} {s o : Nat} (hv : cvB (c.sig (sigE s o c.msg) (sigS s o c.msg)) = true) : chkB (c.sig (sigE s o c.msg) (sigS s o c.msg)) ((pw 4 s PP : Nat) : Int) = true ∧ chkE (c.sig (sigE s o c.msg) (sigS s o c.msg)) ((pw 4 s PP : Nat) : Int) = 0 := by
 have hm : memZ ((pw 4 s PP : Nat) : Int) = true := memZ_pw
 refine ⟨?_, by simp [chkE, hv, hm]⟩
 rw [chkB, hv, hm, Bool.true_and, Bool.true_and, msg_sig]
 exact right_law s o c.msg
end
section
open Go.RowKit Go.Maps
/-- Make, whatever it is called with -/
def mkdC (c : Crd) (s o : Int) : Crd := if mayMk c s o = true then c.sig (sigE s.toNat o.toNat c.msg) (sigS s.toNat o.toNat c.msg) else Crd.zero
def mkdE (c : Crd) (s o : Int) : Int := if mayMk c s o = true then 0 else 1
theorem may_nat {c : Crd} {s o : Int} (h : mayMk c s o = true) : cvB (c.sig 0 0) = true ∧ wthB s 1 = true ∧ wthB o 1 = true ∧ ((s.toNat : Nat) : Int) = s ∧ ((o.toNat : Nat) : Int) = o := by
 simp only [mayMk, Bool.and_eq_true] at h
 obtain ⟨h1, h2, h3⟩ := h
 have := wthB_iff.1 h2
 have := wthB_iff.1 h3
 exact ⟨h1, h2, h3, by omega, by omega⟩
theorem cmake_any (c : Crd) (s o : Int) (hc : CFit c) (w : World) (ht : Tab w) :
  Calls Tryz.prog 18 #[.agg c.cells.toArray, .int .i64 s, .int .i64 o] w fun e w' => e = .returned (.tuple #[.agg (mkdC c s o).cells.toArray, .int .i64 (mkdE c s o)]) ∧ Below w.heap.size w w' := by
 cases h : mayMk c s o with
 | true =>
  obtain ⟨h1, h2, h3, h4, h5⟩ := may_nat h
  have := cmake_yes c s.toNat o.toNat hc h1 (by rw [h4]; exact h2) (by rw [h5]; exact h3) w ht
  rw [h4, h5] at this
  rw [mkdC, mkdE, if_pos h, if_pos h]; exact this
 | false =>
  rw [mkdC, mkdE, if_neg (by simp [h]), if_neg (by simp [h])]
  exact cmake_no c s o hc h w
theorem mkd_fit {c : Crd} (s o : Int) (hc : CFit c) : CFit (mkdC c s o) := by
 unfold mkdC; split
 ·have := @sig_int s.toNat o.toNat c.msg; exact hc.sig this.1 this.2
 ·exact cfit_zero
theorem mkd_v {c : Crd} {s o : Int} (h : mayMk c s o = true) : cvB (mkdC c s o) = true := by
 obtain ⟨h1, _⟩ := may_nat h
 have hn := @sig_nat s.toNat o.toNat c.msg
 rw [mkdC, if_pos h]
 rw [cvB_iff] at h1 ⊢
 obtain ⟨⟨_, _, b1, b2, b3, b4⟩, k⟩ := h1
 exact ⟨⟨hn.1, hn.2, b1, b2, b3, b4⟩, k⟩
theorem mkd_right {c : Crd} {s o : Int} (h : mayMk c s o = true) : chkB (mkdC c s o) ((pw 4 s.toNat PP : Nat) : Int) = true ∧ chkE (mkdC c s o) ((pw 4 s.toNat PP : Nat) : Int) = 0 := by
 have hv := mkd_v h
 rw [mkdC, if_pos h] at hv ⊢
 exact chk_right hv
end
/-- what New returns -/
def nwR (d k r : Int) : Lk := if fmB d k r = true then ⟨d, k, r, Slt.made 1 0 [], Slt.zero, true⟩ else Lk.zero
def nwE (d k r : Int) : Int := if fmB d k r = true then 0 else 1
theorem mkE10 : mkE 1 0 [] = 0 := by decide
theorem mkS10 : mkS 1 0 [] = Slt.made 1 0 [] := by rw [mkS, if_pos mkE10]
set_option maxHeartbeats 4000000 in
theorem lnew_any (d k r : Int) (w : World) (ht : Tab w) : Calls Tryz.prog 16 #[.int .i64 d, .int .i64 k, .int .i64 r] w (LockErr none [] none [] (nwR d k r) (nwE d k r) w) := by
 have q2 := fun W => formed_any ⟨d, k, r, Slt.zero, Slt.zero, true⟩ none 0 0 none 0 0 W
 unfold Lk.cells Slt.zero at q2
 dsimp only at q2
 obtain ⟨w0, hw0⟩ : ∃ W, (w.alloc (.cells #[.int .i64 0, .int .i64 0, .int .i64 0, .int .i64 0, .int .i64 0, .slice none 0 0, .int .u64 0, .int .i64 0, .int .i64 0, .slice none 0 0, .int .u64 0, .bool false] 48)).alloc (.cells #[.int .i64 d, .int .i64 k, .int .i64 r, .int .i64 0, .int .i64 0, .slice none 0 0, .int .u64 0, .int .i64 0, .int .i64 0, .slice none 0 0, .int .u64 0, .bool true] 85) = W := ⟨_, rfl⟩
 have bb0 : Below w.heap.size w w0 := by rw [← hw0]; exact ((Below.refl _ _).alloc (Nat.le_refl _) _).alloc (by simp) _
 have g0 : Blk w0 w.heap.size #[.int .i64 0, .int .i64 0, .int .i64 0, .int .i64 0, .int .i64 0, .slice none 0 0, .int .u64 0, .int .i64 0, .int .i64 0, .slice none 0 0, .int .u64 0, .bool false] := by rw [← hw0]; exact (blk_new rfl).alloc _
 have k0 : Blk w0 (w.heap.size + 1) #[.int .i64 d, .int .i64 k, .int .i64 r, .int .i64 0, .int .i64 0, .slice none 0 0, .int .u64 0, .int .i64 0, .int .i64 0, .slice none 0 0, .int .u64 0, .bool true] := by rw [← hw0]; exact blk_new (by simp)
 have q1 := make_any 1 0 none 0 0 [] rfl w0 (by omega) (by omega) (fun i hi => absurd hi (by simp)) (by omega) (fun x hx => absurd hx (by simp)) (ht.below bb0)
 rw [mkE10, mkS10] at q1
 unfold SlotErr Slt.made at q1
 dsimp only [List.length_nil] at q1
 cases hv : fmB d k r with
 | false =>
  have e1 : nwR d k r = Lk.zero := by simp [nwR, hv]
  have e2 : nwE d k r = 1 := by simp [nwE, hv]
  rw [hv] at q2
  rw [e1, e2]
  generalize sumS 1 0 [] = S at *
  have ⟨Hbb0, Hk0, Hg0, Hhw0, Hq1, Hq2, Hht⟩ := hid7 bb0 k0 g0 hw0 q1 q2 ht; clear bb0 k0 g0 hw0 q1 q2 ht
  go_enter Tryz.func16, Tryz.ntmps16
  go_wp2_with fail
  rw [Hhw0.out]
  go_wp2_with fail
  (with_reducible refine (Hq1.out).mono ?_)
  rintro e w1 ⟨A1, p1, rfl, own1, b1⟩
  have c1 : Below w0.heap.size w0 w1 := Below.trans belt (b1.mono omh)
  have s1 := c1.size
  have bb1 := Hbb0.out.trans (c1.mono Hbb0.out.size)
  have k1 := Hk0.out.below c1
  have g1 := Hg0.out.below c1
  have ⟨Hb1, Hc1, Hbb1, Hk1, Hg1⟩ := hid5 b1 c1 bb1 k1 g1; clear b1 c1 bb1 k1 g1
  obtain ⟨y0, y1, y2, y3, y4, y5, y6, y7, y8, y9, y10, y11⟩ := at12_of Hk1.out
  have ly := (Hk1.out 0 _ rfl).lt
  go_wp2_with fail
  (with_reducible refine (Hq2.out _).mono ?_)
  rintro e w2 ⟨rfl, b2⟩
  have c2 : Below w1.heap.size w1 w2 := Below.trans belt (b2.mono omh)
  have s2 := c2.size
  have bb2 := Hbb1.out.trans (c2.mono Hbb1.out.size)
  have k2 := Hk1.out.below c2
  have g2 := Hg1.out.below c2
  have ⟨Hb2, Hc2, Hbb2, Hk2, Hg2⟩ := hid5 b2 c2 bb2 k2 g2; clear b2 c2 bb2 k2 g2
  clear y0 y1 y2 y3 y4 y5 y6 y7 y8 y9 y10 y11
  obtain ⟨z0, z1, z2, z3, z4, z5, z6, z7, z8, z9, z10, z11⟩ := at12_of Hg2.out
  have lz := (Hg2.out 0 _ rfl).lt
  have b3 : Below w.heap.size w (putL w2 w.heap.size 0 [.int .i64 0, .int .i64 0, .int .i64 0, .int .i64 0, .int .i64 0, .slice none 0 0, .int .u64 0, .int .i64 0, .int .i64 0, .slice none 0 0, .int .u64 0, .bool false]) := putL_below (Nat.le_refl _) _ _ _ Hbb2.out
  simp only [putL, Nat.reduceAdd] at b3
  have Hb3 := Lib.hid b3; clear b3
  obtain ⟨f0, f1, f2, f3, f4, f5, f6, f7, f8, f9, f10, f11⟩ := free12_of Hg2.out
  go_wp2_with fail
  refine bodyPost_ret (v := .tuple #[.agg #[.int .i64 0, .int .i64 0, .int .i64 0, .int .i64 0, .int .i64 0, .slice none 0 0, .int .u64 0, .int .i64 0, .int .i64 0, .slice none 0 0, .int .u64 0, .bool false], .int .i64 1]) (by simp [results, Tryz.results16, go_sem, *]) rfl (lockErr_zero Hb3.out)
 | true =>
  have e1 : nwR d k r = ⟨d, k, r, Slt.made 1 0 [], Slt.zero, true⟩ := by simp [nwR, hv]
  have e2 : nwE d k r = 0 := by simp [nwE, hv]
  rw [hv] at q2
  rw [e1, e2]
  unfold LockErr Lk.cells Slt.made Slt.zero
  dsimp only [List.length_nil]
  generalize sumS 1 0 [] = S at *
  have ⟨Hbb0, Hk0, Hg0, Hhw0, Hq1, Hq2, Hht⟩ := hid7 bb0 k0 g0 hw0 q1 q2 ht; clear bb0 k0 g0 hw0 q1 q2 ht
  go_enter Tryz.func16, Tryz.ntmps16
  go_wp2_with fail
  rw [Hhw0.out]
  go_wp2_with fail
  (with_reducible refine (Hq1.out).mono ?_)
  rintro e w1 ⟨A1, p1, rfl, own1, b1⟩
  have c1 : Below w0.heap.size w0 w1 := Below.trans belt (b1.mono omh)
  have s1 := c1.size
  have bb1 := Hbb0.out.trans (c1.mono Hbb0.out.size)
  have k1 := Hk0.out.below c1
  have g1 := Hg0.out.below c1
  have ⟨Hb1, Hc1, Hbb1, Hk1, Hg1⟩ := hid5 b1 c1 bb1 k1 g1; clear b1 c1 bb1 k1 g1
  obtain ⟨y0, y1, y2, y3, y4, y5, y6, y7, y8, y9, y10, y11⟩ := at12_of Hk1.out
  have ly := (Hk1.out 0 _ rfl).lt
  have o0 : Blk (w1.alloc (.cells #[.int .i64 1, .int .i64 0, .slice A1 0 p1, .int .u64 S] 45)) w1.heap.size #[.int .i64 1, .int .i64 0, .slice A1 0 p1, .int .u64 S] := blk_new rfl
  go_wp2_with fail
  (with_reducible refine (Hq2.out _).mono ?_)
  rintro e w2 ⟨rfl, b2⟩
  have c2 : Below w1.heap.size w1 w2 := Below.trans belt (b2.mono omh)
  have s2 := c2.size
  have bb2 := Hbb1.out.trans (c2.mono Hbb1.out.size)
  have k2 := Hk1.out.below c2
  have g2 := Hg1.out.below c2
  have ⟨Hb2, Hc2, Hbb2, Hk2, Hg2⟩ := hid5 b2 c2 bb2 k2 g2; clear b2 c2 bb2 k2 g2
  clear y0 y1 y2 y3 y4 y5 y6 y7 y8 y9 y10 y11
  have o2 := o0.below Hb2.out
  have lo := (o2 0 _ rfl).lt
  have Ho2 := Lib.hid o2; clear o2
  obtain ⟨z0, z1, z2, z3, z4, z5, z6, z7, z8, z9, z10, z11⟩ := at12_of Hg2.out
  obtain ⟨y0, y1, y2, y3, y4, y5, y6, y7, y8, y9, y10, y11⟩ := at12_of Hk2.out
  obtain ⟨x0, x1, x2, x3⟩ := at4_of Ho2.out
  have lz := (Hg2.out 0 _ rfl).lt
  have ly2 := (Hk2.out 0 _ rfl).lt
  have b3 : Below w.heap.size w (putL (putL w2 (w.heap.size + 1) 3 [.int .i64 1, .int .i64 0, .slice A1 0 p1, .int .u64 S]) w.heap.size 0 [.int .i64 d, .int .i64 k, .int .i64 r, .int .i64 1, .int .i64 0, .slice A1 0 p1, .int .u64 S, .int .i64 0, .int .i64 0, .slice none 0 0, .int .u64 0, .bool true]) := putL_below (Nat.le_refl _) _ _ _ (putL_below (by omega) _ _ _ Hbb2.out)
  simp only [putL, Nat.reduceAdd] at b3
  have Hb3 := Lib.hid b3; clear b3
  obtain ⟨f0, f1, f2, f3, f4, f5, f6, f7, f8, f9, f10, f11⟩ := free12_of Hg2.out
  obtain ⟨v0, v1, v2, v3, v4, v5, v6, v7, v8, v9, v10, v11⟩ := free12_of Hk2.out
  go_wp2_with fail
  refine bodyPost_ret (v := .tuple #[.agg #[.int .i64 d, .int .i64 k, .int .i64 r, .int .i64 1, .int .i64 0, .slice A1 0 p1, .int .u64 S, .int .i64 0, .int .i64 0, .slice none 0 0, .int .u64 0, .bool true], .int .i64 0]) (by simp [results, Tryz.results16, go_sem, *]) rfl ⟨A1, p1, none, 0, rfl, prov_nil _ _ _ _ _, prov_nil _ _ _ _ _, Hb3.out⟩
/-- the card of a guest, signed -/
def hcd (id n : Int) : Crd := mkdC (gst id 12 n) 5 7
theorem hcd_may {id n : Int} (h1 : 1 ≤ id ∧ id ≤ 1000000) (h2 : 1 ≤ n ∧ n ≤ 1000000000) : mayMk (gst id 12 n) 5 7 = true := by
 have := gst_v (id := id) (door := 12) (n := n) (e := 0) (s := 0) h1 (by omega) h2 (by omega) (by omega)
 have a : wthB 5 1 = true := by decide
 have b : wthB 7 1 = true := by decide
 rw [mayMk, this, a, b]; rfl
structure Hcd (c : Crd) (id n : Int) : Prop where
 i : c.i = id
 k : c.k = 1
 d : c.d = 12
 n : c.n = n
 f : c.f = 100
 u : c.u = 900
 v : cvB c = true
 g : chkB c 1024 = true
theorem hcd_at {id n : Int} (h1 : 1 ≤ id ∧ id ≤ 1000000) (h2 : 1 ≤ n ∧ n ≤ 1000000000) : Hcd (hcd id n) id n := by
 have hm := hcd_may h1 h2
 have hv := mkd_v hm
 have hr := (mkd_right hm).1
 have e5 : (5 : Int).toNat = 5 := rfl
 rw [e5, pw45] at hr
 have e : hcd id n = (gst id 12 n).sig (sigE (5 : Int).toNat (7 : Int).toNat (gst id 12 n).msg) (sigS (5 : Int).toNat (7 : Int).toNat (gst id 12 n).msg) := by rw [hcd, mkdC, if_pos hm]
 refine ⟨?_, ?_, ?_, ?_, ?_, ?_, hv, hr⟩ <;> rw [e] <;> rfl
/-- the lock of the example -/
def hl0 : Lk := ⟨12, 1024, 5, Slt.made 1 0 [], Slt.zero, true⟩
theorem made10 : (Slt.made 1 0 []).ok = true := made_ok (by decide)
theorem best_l0 : bestI (Slt.made 1 0 []) Slt.zero = 0 ∧ bestB (Slt.made 1 0 []) Slt.zero = true := by simp [bestI, bestB, zero_ok, made10]
theorem hmem1024 : memZ 1024 = true := by
 have := (hcd_at (id := 1) (n := 3) (by omega) (by omega)).g
 unfold chkB at this
 simp only [Bool.and_eq_true] at this
 exact this.1.2
/-- a lock of the example -/
structure Hlk (z : Lk) (n s : Int) : Prop where
 d : z.d = 12
 k : z.k = 1024
 r : z.r = 5
 v : lvB z = true
 c : (keepS z).c = n
 l : (keepS z).l = []
 s : (keepS z).s ≤ s
theorem hacc {l : Lk} {c : Crd} {n s id k : Int} {t : Int} (hl : Hlk l n s) (hc : Hcd c id k) : accB l c t = true ↔ (askB t 5 100 900 = true ∧ mayB t 5 100 900 = true) ∧ n ≤ k := by
 rw [acc_iff, hl.r, hc.f, hc.u, hc.d, hl.d, hl.l, hl.c, hc.n, hc.k]
 simp
theorem free_is (c : Crd) : ∀ bs : List Crd, freeB c bs = !(rvkD bs c.i || (decide (c.k = 1) && newD bs c.n))
 | [] => by simp [freeB, rvkD, newD]
 | b :: r => by
  have ih := free_is c r
  have e1 : freeB c (b :: r) = (!barB b c && freeB c r) := rfl
  have e2 : rvkD (b :: r) c.i = ((decide (b.k = 3) && decide (b.l = c.i)) || rvkD r c.i) := rfl
  have e3 : newD (b :: r) c.n = ((decide (b.k = 1) && decide (c.n < b.n)) || newD r c.n) := rfl
  rw [e1, e2, e3, ih, barB]
  generalize decide (b.k = 3) = x1
  generalize decide (b.l = c.i) = x2
  generalize decide (b.k = 1) = x3
  generalize decide (c.k = 1) = x4
  generalize decide (c.n < b.n) = x5
  generalize rvkD r c.i = x6
  generalize newD r c.n = x7
  revert x1 x2 x3 x4 x5 x6 x7
  decide
theorem may_is (bs : List Crd) (c : Crd) (key t : Int) : mayW bs c key t = mayD bs c key t := by
 have e1 : (!decide (t < c.f)) = decide (c.f ≤ t) := by
  by_cases h : t < c.f
  ·rw [decide_eq_true h, decide_eq_false (by omega)]; rfl
  ·rw [decide_eq_false h, decide_eq_true (by omega)]; rfl
 have e2 : (!decide (c.u ≤ t)) = decide (t < c.u) := by
  by_cases h : c.u ≤ t
  ·rw [decide_eq_true h, decide_eq_false (by omega)]; rfl
  ·rw [decide_eq_false h, decide_eq_true (by omega)]; rfl
 rw [mayW, mayD, free_is, e1, e2, inD]
 generalize decide (c.k = 3) = x1
 generalize rvkD bs c.i = x2
 generalize (decide (c.k = 1) && newD bs c.n) = x3
 generalize decide (c.f ≤ t) = x4
 generalize decide (t < c.u) = x5
 generalize chkB c key = x6
 revert x1 x2 x3 x4 x5 x6
 decide
/-- one lock with an exact clock: what counts afterwards, and what opens -/
def nxtB (door key : Int) (bs : List Crd) (c : Crd) (s : Shw) : List Crd := if 2 ≤ s.a ∧ cntD bs c door key s.t = true then bs ++ [c] else bs
def opnB (door key : Int) (bs : List Crd) (c : Crd) (s : Shw) : Bool := mayD bs c key s.t && (decide (c.d = door) || decide (c.d = 0)) && decide (s.a = 3)
def exO (cs : List Crd) (door key : Int) : List Crd → List Shw → List Bool
 | _, [] => []
 | bs, s :: r => opnB door key bs (cdD cs s.j) s :: exO cs door key (nxtB door key bs (cdD cs s.j) s) r
theorem exact_run (cs : List Crd) {door key : Int} : ∀ (p : List Shw) (L : Lk) (bs : List Crd), Bef L bs door key → (∀ s ∈ p, s.i = 0 ∧ cvB (cdD cs s.j) = true ∧ timeB s.t = true ∧ 0 ≤ s.a ∧ s.a ≤ 3) → bs.length + p.length ≤ 400 → runO cs [L] p = exO cs door key bs p
 | [], _, _, _, _, _ => rfl
 | s :: r, L, bs, hb, hp, hl => by
  obtain ⟨h0, h1, h2, h3⟩ := hp s List.mem_cons_self
  rw [List.length_cons] at hl
  obtain ⟨e1, e2⟩ := hb.step (c := cdD cs s.j) (t := s.t) (a := s.a) h1 h2 h3 (by omega)
  have eL : lkD [L] s.i = L := by rw [h0]; rfl
  have eS : oneS cs [L] s = [(stp L (cdD cs s.j) s.t s.a).1] := by rw [oneS, eL, h0]; rfl
  rw [runO, exO, oneO, eL, eS]
  have ih := exact_run cs r _ _ e2 (fun x hx => hp x (List.mem_cons_of_mem _ hx)) (by
   split
   ·rw [List.length_append, List.length_cons, List.length_nil]; omega
   ·omega)
  rw [ih, e1]; rfl
/-- the example: the card of a guest -/
def gc (id n : Int) : Crd := ⟨id, 1, 4, n, 10, 90, 0, 0, 0⟩
def hc4 (id n : Int) : Crd := mkdC (gc id n) 5 6
theorem gc_fit {id n : Int} (h1 : -9223372036854775808 ≤ id ∧ id ≤ 9223372036854775807) (h3 : -9223372036854775808 ≤ n ∧ n ≤ 9223372036854775807) : CFit (gc id n) :=
 ⟨h1, by simp [gc], by simp [gc], h3, by simp [gc], by simp [gc], by simp [gc], by simp [gc], by simp [gc]⟩
theorem gc_v {id n : Int} {e s : Int} (h1 : 1 ≤ id ∧ id ≤ 1000000) (h3 : 1 ≤ n ∧ n ≤ 1000000000) (he : 0 ≤ e ∧ e < 1073741789) (hs : 0 ≤ s ∧ s < 1073741789) : cvB ((gc id n).sig e s) = true :=
 cvB_iff.2 ⟨⟨he, hs, h1, by simp [gc, Crd.sig], by simp [gc, Crd.sig], by simp [gc, Crd.sig]⟩, .inl ⟨rfl, by simp [gc, Crd.sig], h3, rfl⟩⟩
theorem hc4_may {id n : Int} (h1 : 1 ≤ id ∧ id ≤ 1000000) (h2 : 1 ≤ n ∧ n ≤ 1000000000) : mayMk (gc id n) 5 6 = true := by
 have := gc_v (id := id) (n := n) (e := 0) (s := 0) h1 h2 (by omega) (by omega)
 have a : wthB 5 1 = true := by decide
 have b : wthB 6 1 = true := by decide
 rw [mayMk, this, a, b]; rfl
theorem hc4_fit (id n : Int) (h1 : 1 ≤ id ∧ id ≤ 1000000) (h2 : 1 ≤ n ∧ n ≤ 1000000000) : CFit (hc4 id n) := mkd_fit 5 6 (gc_fit (by omega) (by omega))
structure Hc4 (c : Crd) (id n : Int) : Prop where
 i : c.i = id
 k : c.k = 1
 d : c.d = 4
 n : c.n = n
 f : c.f = 10
 u : c.u = 90
 v : cvB c = true
 g : chkB c 1024 = true
theorem hc4_at {id n : Int} (h1 : 1 ≤ id ∧ id ≤ 1000000) (h2 : 1 ≤ n ∧ n ≤ 1000000000) : Hc4 (hc4 id n) id n := by
 have hm := hc4_may h1 h2
 have hv := mkd_v hm
 have hr := (mkd_right hm).1
 have e5 : (5 : Int).toNat = 5 := rfl
 rw [e5, pw45] at hr
 have e : hc4 id n = (gc id n).sig (sigE (5 : Int).toNat (6 : Int).toNat (gc id n).msg) (sigS (5 : Int).toNat (6 : Int).toNat (gc id n).msg) := by rw [hc4, mkdC, if_pos hm]
 refine ⟨?_, ?_, ?_, ?_, ?_, ?_, hv, hr⟩ <;> rw [e] <;> rfl
/-- the lock of the example, and any new lock with an exact clock -/
def nl (d : Int) : Lk := ⟨d, 1024, 0, Slt.made 1 0 [], Slt.zero, true⟩
theorem fm_nl {d : Int} (h : 1 ≤ d ∧ d ≤ 400) : fmB d 1024 0 = true := by
 have a : decide ((1 : Int) ≤ d) = true := decide_eq_true h.1
 have b : decide (d ≤ (400 : Int)) = true := decide_eq_true h.2
 have c : errB 0 = true := by decide
 rw [fmB, a, b, c, hmem1024]; rfl
theorem lv_nl {d : Int} (h : 1 ≤ d ∧ d ≤ 400) : lvB (nl d) = true := by
 have a : bestB (nl d).x (nl d).y = true := best_l0.2
 have b : fmB (nl d).d (nl d).k (nl d).r = true := fm_nl h
 rw [lvB, a, b]; rfl
theorem keep_nl (d : Int) : keepS (nl d) = Slt.made 1 0 [] := by
 have a : bestI (nl d).x (nl d).y = 0 := best_l0.1
 rw [keepS, a]; rfl
theorem nw_nl {d : Int} (h : 1 ≤ d ∧ d ≤ 400) : nwR d 1024 0 = nl d ∧ nwE d 1024 0 = 0 := by rw [nwR, nwE, if_pos (fm_nl h), if_pos (fm_nl h)]; exact ⟨rfl, rfl⟩
theorem bef_nl {d : Int} (h : 1 ≤ d ∧ d ≤ 400) : Bef (nl d) [] d 1024 :=
 ⟨lv_nl h, rfl, rfl, rfl, (fun b hb => by cases hb), .inl (by rw [keep_nl]; rfl), fun x => by rw [keep_nl]; simp [Slt.made], by rw [keep_nl]; simp [Slt.made], by rw [keep_nl]; simp [Slt.made]⟩
theorem sfit_made1 : SFit (Slt.made 1 0 []) := ⟨by simp only [Slt.made]; omega, by simp only [Slt.made]; omega, fun x hx => by simp [Slt.made] at hx, by simp only [Slt.made]; exact sumS_in _ _ _, by simp [Slt.made]⟩
theorem dbad_any (L : Lk) (A : Option Addr) (p : Nat) (B : Option Addr) (r : Nat) (w : World) (h : LkP.Ok ⟨L, A, p, B, r⟩ w) (ht : Tab w) :
  Calls Tryz.prog 27 #[.agg (L.cells A L.x.l.length p B L.y.l.length r).toArray] w fun e w' => e = .returned (.bool (!lvB L)) ∧ Below w.heap.size w w' := by
 have b1 : Below w.heap.size w (w.alloc (.cells (L.cells A L.x.l.length p B L.y.l.length r).toArray 48)) := (Below.refl _ _).alloc (Nat.le_refl _) _
 have q := lvalid_any L A L.x.l.length p B L.y.l.length r (w.alloc (.cells (L.cells A L.x.l.length p B L.y.l.length r).toArray 48)) (h.below b1).x (h.below b1).y (ht.below b1)
 generalize lvB L = R at *
 unfold Lk.cells at q b1 ⊢
 have ⟨Hq, Hb1, Hh, Hht⟩ := hid4 q b1 h ht; clear q b1 h ht
 go_enter Tryz.func27, Tryz.ntmps27
 go_wp2_with fail
 refine Hq.out.mono ?_
 rintro e w2 ⟨rfl, b2⟩
 have bb := Hb1.out.trans (b2.mono (by simp))
 have ⟨Hb2, Hbb⟩ := hid2 b2 bb; clear b2 bb
 go_wp2_with fail
 go_ret
 exact ⟨rfl, Hbb.out⟩
def lkpB (Ps : List LkP) : Bool := lksB (Ps.map LkP.L)
theorem lkpB_drop {Ps : List LkP} {k : Nat} {P : LkP} (h : Ps[k]? = some P) : lkpB (Ps.drop k) = (lvB P.L && lkpB (Ps.drop (k + 1))) := by
 obtain ⟨hk, rfl⟩ := List.getElem?_eq_some_iff.1 h
 rw [List.drop_eq_getElem_cons hk]; rfl
set_option maxHeartbeats 4000000 in
theorem dlindex_any (A : Option Addr) (cp n : Nat) (Ps : List LkP) (hln : Ps.length = n) (hn : n ≤ 9223372036854775807) (w : World) (hl : Locks w A Ps) (ht : Tab w) :
  Calls Tryz.prog 55 #[.slice A n cp, .func (.func 27) #[] #[]] w (IdxPost (lkpB Ps) w) := by
 generalize hR : lkpB Ps = R
 have h0 : R = lkpB (Ps.drop 0) := by rw [List.drop_zero]; exact hR.symm
 have ⟨Hhl, Hhln, HhR, Hh0, Hht⟩ := hid5 hl hln hR h0 ht; clear hl hln hR h0 ht
 go_enter Tryz.func55, Tryz.ntmps55
 go_wp2_with fail
 go_loopw [8] (fun i wr => ∃ (k : Nat), k ≤ n ∧ i = .int .i64 k ∧ R = lkpB (Ps.drop k) ∧ Below w.heap.size w wr) (fun i _ => n - (intOf i).toNat)
 case atStart => exact ⟨0, by omega, rfl, Hh0.out, Below.refl _ _⟩
 case round =>
  obtain ⟨k, hk, rfl, hRk, hb⟩ := hrel
  by_cases hlt : k < n
  ·obtain ⟨⟨L, A2, p, B, r⟩, hP⟩ : ∃ P, Ps[k]? = some P := ⟨_, List.getElem?_eq_getElem (by rw [Hhln.out]; exact hlt)⟩
   obtain ⟨b, off, rfl, hbl, hok, hcell⟩ := (Hhl.out.below hb).at hP
   rw [lkpB_drop hP] at hRk
   have q := dbad_any L A2 p B r wr hok (Hht.out.below hb)
   have c0 := hcell 0 _ rfl; have c1 := hcell 1 _ rfl; have c2 := hcell 2 _ rfl; have c3 := hcell 3 _ rfl; have c4 := hcell 4 _ rfl; have c5 := hcell 5 _ rfl; have c6 := hcell 6 _ rfl; have c7 := hcell 7 _ rfl; have c8 := hcell 8 _ rfl; have c9 := hcell 9 _ rfl; have c10 := hcell 10 _ rfl; have c11 := hcell 11 _ rfl
   simp only [Nat.add_zero] at c0
   clear hcell hok
   unfold Lk.cells at q
   dsimp only at hRk c0 c1 c2 c3 c4 c5 c6 c7 c8 c9 c10 c11
   generalize lvB L = X at *
   have g1 : (k : Int) < (n : Int) := by omega
   have g0 : (0 : Int) ≤ (k : Int) := by omega
   have ⟨Hq, HhRk, HhP, Hhb⟩ := hid4 q hRk hP hb; clear q hRk hP hb
   go_wp2_with fail
   refine Hq.out.mono ?_
   rintro e w2 ⟨rfl, b2⟩
   have bb := Hhb.out.trans (b2.mono Hhb.out.size)
   clear c0 c1 c2 c3 c4 c5 c6 c7 c8 c9 c10 c11
   have ⟨Hb2, Hbb⟩ := hid2 b2 bb; clear b2 bb
   cases X with
   | true =>
    go_wp2_with fail
    go_roundw
    case rel => exact ⟨k + 1, by omega, by go_num, by rw [HhRk.out, Bool.true_and], Hbb.out⟩
    case measure => simp [intOf]; omega
   | false =>
    go_wp2_with fail
    go_ret
    exact ⟨k, rfl, by rw [HhRk.out]; simp, by omega, by omega, Hbb.out⟩
  ·have : Ps.drop k = [] := List.drop_eq_nil_of_le (by rw [Hhln.out]; omega)
   rw [this] at hRk
   have ⟨HhRk, Hhb, Hthis⟩ := hid3 hRk hb this; clear hRk hb this
   go_wp2_with fail
   go_ret
   exact ⟨-1, rfl, by rw [HhRk.out]; rfl, by omega, by omega, Hhb.out⟩
theorem dlcontains_any (A : Option Addr) (cp n : Nat) (Ps : List LkP) (hln : Ps.length = n) (hn : n ≤ 9223372036854775807) (w : World) (hl : Locks w A Ps) (ht : Tab w) :
  Calls Tryz.prog 26 #[.slice A n cp, .func (.func 27) #[] #[]] w fun e w' => e = .returned (.bool (!lkpB Ps)) ∧ Below w.heap.size w w' := by
 have q := dlindex_any A cp n Ps hln hn w hl ht
 generalize lkpB Ps = R at *
 unfold IdxPost at q
 have ⟨Hq, Hhl, Hhln, Hht⟩ := hid4 q hl hln ht; clear q hl hln ht
 go_enter Tryz.func26, Tryz.ntmps26
 go_wp2_with fail
 refine Hq.out.mono ?_
 rintro e w2 ⟨i, rfl, hi, i0, i1, b2⟩
 have Hb2 := Lib.hid b2; clear b2
 cases R with
 | true =>
  have hi2 : ¬ (0 ≤ i) := by simpa using hi
  go_wp2_with fail
  go_ret
  exact ⟨ret_bool (by simp), Hb2.out⟩
 | false =>
  have hi2 : 0 ≤ i := by simpa using hi
  go_wp2_with fail
  go_ret
  exact ⟨ret_bool (by simp), Hb2.out⟩
end Go.Proofs.YtclgncaghiinhaaGreatDoor
