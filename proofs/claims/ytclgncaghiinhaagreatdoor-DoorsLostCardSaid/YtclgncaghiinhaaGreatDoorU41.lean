/- Contract of lock.New. -/
import Derived.Deep.CutRange
import Derived.Test.YtclgncaghiinhaaGreatDoorU10
import Derived.Test.YtclgncaghiinhaaGreatDoorU21
import Derived.Test.YtclgncaghiinhaaGreatDoorU40
set_option linter.unusedSimpArgs false
set_option linter.unusedVariables false
set_option maxRecDepth 100000
namespace Go.Proofs.YtclgncaghiinhaaGreatDoor
open Go.RowKit
section
open Go.RowKit Go.Maps
/-- the card of a guest that was not signed -/
def gst (id door n : Int) : Crd := ⟨id, 1, door, n, 100, 900, 0, 0, 0⟩
theorem gst_v {id door n : Int} {e s : Int} (h1 : 1 ≤ id ∧ id ≤ 1000000) (h2 : 1 ≤ door ∧ door ≤ 400) (h3 : 1 ≤ n ∧ n ≤ 1000000000) (he : 0 ≤ e ∧ e < 1073741789) (hs : 0 ≤ s ∧ s < 1073741789) : cvB ((gst id door n).sig e s) = true := by
 exact cvB_iff.2 ⟨⟨he, hs, h1, by simp [gst, Crd.sig], by simp [gst, Crd.sig], by simp [gst, Crd.sig]⟩, .inl ⟨rfl, h2, h3, rfl⟩⟩
theorem sig_nat {s o : Nat} {l : List Int} : (0 ≤ ((sigE s o l : Nat) : Int) ∧ ((sigE s o l : Nat) : Int) < 1073741789) ∧ 0 ≤ ((sigS s o l : Nat) : Int) ∧ ((sigS s o l : Nat) : Int) < 1073741789 := by
 have h1 := sigE_lt s o l
 have h2 := sigS_lt s o l
 have : QQ = 1073741789 := rfl
 omega
theorem chk_right {c : Crd} {s o : Nat} (hv : cvB (c.sig (sigE s o c.msg) (sigS s o c.msg)) = true) : chkB (c.sig (sigE s o c.msg) (sigS s o c.msg)) ((pw 4 s PP : Nat) : Int) = true ∧ chkE (c.sig (sigE s o c.msg) (sigS s o c.msg)) ((pw 4 s PP : Nat) : Int) = 0 := by
 have hm : memZ ((pw 4 s PP : Nat) : Int) = true := memZ_pw
 refine ⟨?_, by simp [chkE, hv, hm]⟩
 rw [chkB, hv, hm, Bool.true_and, Bool.true_and, msg_sig]
 exact right_law s o c.msg
end
section
open Go.RowKit Go.Maps
/-- Make, whatever it is called with -/
def mkdC (c : Crd) (s o : Int) : Crd := if mayMk c s o = true then c.sig (sigE s.toNat o.toNat c.msg) (sigS s.toNat o.toNat c.msg) else Crd.zero
def mkdE (c : Crd) (s o : Int) : Int := if mayMk c s o = true then 0 else 1
theorem may_nat {c : Crd} {s o : Int} (h : mayMk c s o = true) : cvB (c.sig 0 0) = true ∧ wthB s 1 = true ∧ wthB o 1 = true ∧ ((s.toNat : Nat) : Int) = s ∧ ((o.toNat : Nat) : Int) = o := by
 simp only [mayMk, Bool.and_eq_true] at h
 obtain ⟨h1, h2, h3⟩ := h
 have := wthB_iff.1 h2
 have := wthB_iff.1 h3
 exact ⟨h1, h2, h3, by omega, by omega⟩
theorem cmake_any (c : Crd) (s o : Int) (hc : CFit c) (w : World) (ht : Tab w) :
  Calls Tryz.prog 18 #[.agg c.cells.toArray, .int .i64 s, .int .i64 o] w fun e w' => e = .returned (.tuple #[.agg (mkdC c s o).cells.toArray, .int .i64 (mkdE c s o)]) ∧ Below w.heap.size w w' := by
 cases h : mayMk c s o with
 | true =>
  obtain ⟨h1, h2, h3, h4, h5⟩ := may_nat h
  have := cmake_yes c s.toNat o.toNat hc h1 (by rw [h4]; exact h2) (by rw [h5]; exact h3) w ht
  rw [h4, h5] at this
  rw [mkdC, mkdE, if_pos h, if_pos h]; exact this
 | false =>
  rw [mkdC, mkdE, if_neg (by simp [h]), if_neg (by simp [h])]
  exact cmake_no c s o hc h w
theorem mkd_fit {c : Crd} (s o : Int) (hc : CFit c) : CFit (mkdC c s o) := by
 unfold mkdC; split
 ·have := @sig_int s.toNat o.toNat c.msg; exact hc.sig this.1 this.2
 ·exact cfit_zero
theorem mkd_v {c : Crd} {s o : Int} (h : mayMk c s o = true) : cvB (mkdC c s o) = true := by
 obtain ⟨h1, _⟩ := may_nat h
 have hn := @sig_nat s.toNat o.toNat c.msg
 rw [mkdC, if_pos h]
 rw [cvB_iff] at h1 ⊢
 obtain ⟨⟨_, _, b1, b2, b3, b4⟩, k⟩ := h1
 exact ⟨⟨hn.1, hn.2, b1, b2, b3, b4⟩, k⟩
theorem mkd_right {c : Crd} {s o : Int} (h : mayMk c s o = true) : chkB (mkdC c s o) ((pw 4 s.toNat PP : Nat) : Int) = true ∧ chkE (mkdC c s o) ((pw 4 s.toNat PP : Nat) : Int) = 0 := by
 have hv := mkd_v h
 rw [mkdC, if_pos h] at hv ⊢
 exact chk_right hv
end
/-- what New returns -/
def nwR (d k r : Int) : Lk := if fmB d k r = true then ⟨d, k, r, Slt.made 1 0 [], Slt.zero, true⟩ else Lk.zero
def nwE (d k r : Int) : Int := if fmB d k r = true then 0 else 1
theorem mkE10 : mkE 1 0 [] = 0 := by decide
theorem mkS10 : mkS 1 0 [] = Slt.made 1 0 [] := by rw [mkS, if_pos mkE10]
set_option maxHeartbeats 4000000 in
theorem lnew_any (d k r : Int) (w : World) (ht : Tab w) : Calls Tryz.prog 16 #[.int .i64 d, .int .i64 k, .int .i64 r] w (LockErr none [] none [] (nwR d k r) (nwE d k r) w) := by
 have q2 := fun W => formed_any ⟨d, k, r, Slt.zero, Slt.zero, true⟩ none 0 0 none 0 0 W
 unfold Lk.cells Slt.zero at q2
 dsimp only at q2
 obtain ⟨w0, hw0⟩ : ∃ W, (w.alloc (.cells #[.int .i64 0, .int .i64 0, .int .i64 0, .int .i64 0, .int .i64 0, .slice none 0 0, .int .u64 0, .int .i64 0, .int .i64 0, .slice none 0 0, .int .u64 0, .bool false] 48)).alloc (.cells #[.int .i64 d, .int .i64 k, .int .i64 r, .int .i64 0, .int .i64 0, .slice none 0 0, .int .u64 0, .int .i64 0, .int .i64 0, .slice none 0 0, .int .u64 0, .bool true] 85) = W := ⟨_, rfl⟩
 have bb0 : Below w.heap.size w w0 := by rw [← hw0]; exact ((Below.refl _ _).alloc (Nat.le_refl _) _).alloc (by simp) _
 have g0 : Blk w0 w.heap.size #[.int .i64 0, .int .i64 0, .int .i64 0, .int .i64 0, .int .i64 0, .slice none 0 0, .int .u64 0, .int .i64 0, .int .i64 0, .slice none 0 0, .int .u64 0, .bool false] := by rw [← hw0]; exact (blk_new rfl).alloc _
 have k0 : Blk w0 (w.heap.size + 1) #[.int .i64 d, .int .i64 k, .int .i64 r, .int .i64 0, .int .i64 0, .slice none 0 0, .int .u64 0, .int .i64 0, .int .i64 0, .slice none 0 0, .int .u64 0, .bool true] := by rw [← hw0]; exact blk_new (by simp)
 have q1 := make_any 1 0 none 0 0 [] rfl w0 (by omega) (by omega) (fun i hi => absurd hi (by simp)) (by omega) (fun x hx => absurd hx (by simp)) (ht.below bb0)
 rw [mkE10, mkS10] at q1
 unfold SlotErr Slt.made at q1
 dsimp only [List.length_nil] at q1
 cases hv : fmB d k r with
 | false =>
  have e1 : nwR d k r = Lk.zero := by simp [nwR, hv]
  have e2 : nwE d k r = 1 := by simp [nwE, hv]
  rw [hv] at q2
  rw [e1, e2]
  generalize sumS 1 0 [] = S at *
  have ⟨Hbb0, Hk0, Hg0, Hhw0, Hq1, Hq2, Hht⟩ := hid7 bb0 k0 g0 hw0 q1 q2 ht; clear bb0 k0 g0 hw0 q1 q2 ht
  go_enter Tryz.func16, Tryz.ntmps16
  go_wp2_with fail
  rw [Hhw0.out]
  go_wp2_with fail
  (with_reducible refine (Hq1.out).mono ?_)
  rintro e w1 ⟨A1, p1, rfl, own1, b1⟩
  have c1 : Below w0.heap.size w0 w1 := Below.trans belt (b1.mono omh)
  have s1 := c1.size
  have bb1 := Hbb0.out.trans (c1.mono Hbb0.out.size)
  have k1 := Hk0.out.below c1
  have g1 := Hg0.out.below c1
  have ⟨Hb1, Hc1, Hbb1, Hk1, Hg1⟩ := hid5 b1 c1 bb1 k1 g1; clear b1 c1 bb1 k1 g1
  obtain ⟨y0, y1, y2, y3, y4, y5, y6, y7, y8, y9, y10, y11⟩ := at12_of Hk1.out
  have ly := (Hk1.out 0 _ rfl).lt
  go_wp2_with fail
  (with_reducible refine (Hq2.out _).mono ?_)
  rintro e w2 ⟨rfl, b2⟩
  have c2 : Below w1.heap.size w1 w2 := Below.trans belt (b2.mono omh)
  have s2 := c2.size
  have bb2 := Hbb1.out.trans (c2.mono Hbb1.out.size)
  have k2 := Hk1.out.below c2
  have g2 := Hg1.out.below c2
  have ⟨Hb2, Hc2, Hbb2, Hk2, Hg2⟩ := hid5 b2 c2 bb2 k2 g2; clear b2 c2 bb2 k2 g2
  clear y0 y1 y2 y3 y4 y5 y6 y7 y8 y9 y10 y11
  obtain ⟨z0, z1, z2, z3, z4, z5, z6, z7, z8, z9, z10, z11⟩ := at12_of Hg2.out
  have lz := (Hg2.out 0 _ rfl).lt
  have b3 : Below w.heap.size w (putL w2 w.heap.size 0 [.int .i64 0, .int .i64 0, .int .i64 0, .int .i64 0, .int .i64 0, .slice none 0 0, .int .u64 0, .int .i64 0, .int .i64 0, .slice none 0 0, .int .u64 0, .bool false]) := putL_below (Nat.le_refl _) _ _ _ Hbb2.out
  simp only [putL, Nat.reduceAdd] at b3
  have Hb3 := Lib.hid b3; clear b3
  obtain ⟨f0, f1, f2, f3, f4, f5, f6, f7, f8, f9, f10, f11⟩ := free12_of Hg2.out
  go_wp2_with fail
  refine bodyPost_ret (v := .tuple #[.agg #[.int .i64 0, .int .i64 0, .int .i64 0, .int .i64 0, .int .i64 0, .slice none 0 0, .int .u64 0, .int .i64 0, .int .i64 0, .slice none 0 0, .int .u64 0, .bool false], .int .i64 1]) (by simp [results, Tryz.results16, go_sem, *]) rfl (lockErr_zero Hb3.out)
 | true =>
  have e1 : nwR d k r = ⟨d, k, r, Slt.made 1 0 [], Slt.zero, true⟩ := by simp [nwR, hv]
  have e2 : nwE d k r = 0 := by simp [nwE, hv]
  rw [hv] at q2
  rw [e1, e2]
  unfold LockErr Lk.cells Slt.made Slt.zero
  dsimp only [List.length_nil]
  generalize sumS 1 0 [] = S at *
  have ⟨Hbb0, Hk0, Hg0, Hhw0, Hq1, Hq2, Hht⟩ := hid7 bb0 k0 g0 hw0 q1 q2 ht; clear bb0 k0 g0 hw0 q1 q2 ht
  go_enter Tryz.func16, Tryz.ntmps16
  go_wp2_with fail
  rw [Hhw0.out]
  go_wp2_with fail
  (with_reducible refine (Hq1.out).mono ?_)
  rintro e w1 ⟨A1, p1, rfl, own1, b1⟩
  have c1 : Below w0.heap.size w0 w1 := Below.trans belt (b1.mono omh)
  have s1 := c1.size
  have bb1 := Hbb0.out.trans (c1.mono Hbb0.out.size)
  have k1 := Hk0.out.below c1
  have g1 := Hg0.out.below c1
  have ⟨Hb1, Hc1, Hbb1, Hk1, Hg1⟩ := hid5 b1 c1 bb1 k1 g1; clear b1 c1 bb1 k1 g1
  obtain ⟨y0, y1, y2, y3, y4, y5, y6, y7, y8, y9, y10, y11⟩ := at12_of Hk1.out
  have ly := (Hk1.out 0 _ rfl).lt
  have o0 : Blk (w1.alloc (.cells #[.int .i64 1, .int .i64 0, .slice A1 0 p1, .int .u64 S] 45)) w1.heap.size #[.int .i64 1, .int .i64 0, .slice A1 0 p1, .int .u64 S] := blk_new rfl
  go_wp2_with fail
  (with_reducible refine (Hq2.out _).mono ?_)
  rintro e w2 ⟨rfl, b2⟩
  have c2 : Below w1.heap.size w1 w2 := Below.trans belt (b2.mono omh)
  have s2 := c2.size
  have bb2 := Hbb1.out.trans (c2.mono Hbb1.out.size)
  have k2 := Hk1.out.below c2
  have g2 := Hg1.out.below c2
  have ⟨Hb2, Hc2, Hbb2, Hk2, Hg2⟩ := hid5 b2 c2 bb2 k2 g2; clear b2 c2 bb2 k2 g2
  clear y0 y1 y2 y3 y4 y5 y6 y7 y8 y9 y10 y11
  have o2 := o0.below Hb2.out
  have lo := (o2 0 _ rfl).lt
  have Ho2 := Lib.hid o2; clear o2
  obtain ⟨z0, z1, z2, z3, z4, z5, z6, z7, z8, z9, z10, z11⟩ := at12_of Hg2.out
  obtain ⟨y0, y1, y2, y3, y4, y5, y6, y7, y8, y9, y10, y11⟩ := at12_of Hk2.out
  obtain ⟨x0, x1, x2, x3⟩ := at4_of Ho2.out
  have lz := (Hg2.out 0 _ rfl).lt
  have ly2 := (Hk2.out 0 _ rfl).lt
  have b3 : Below w.heap.size w (putL (putL w2 (w.heap.size + 1) 3 [.int .i64 1, .int .i64 0, .slice A1 0 p1, .int .u64 S]) w.heap.size 0 [.int .i64 d, .int .i64 k, .int .i64 r, .int .i64 1, .int .i64 0, .slice A1 0 p1, .int .u64 S, .int .i64 0, .int .i64 0, .slice none 0 0, .int .u64 0, .bool true]) := putL_below (Nat.le_refl _) _ _ _ (putL_below (by omega) _ _ _ Hbb2.out)
  simp only [putL, Nat.reduceAdd] at b3
  have Hb3 := Lib.hid b3; clear b3
  obtain ⟨f0, f1, f2, f3, f4, f5, f6, f7, f8, f9, f10, f11⟩ := free12_of Hg2.out
  obtain ⟨v0, v1, v2, v3, v4, v5, v6, v7, v8, v9, v10, v11⟩ := free12_of Hk2.out
  go_wp2_with fail
  refine bodyPost_ret (v := .tuple #[.agg #[.int .i64 d, .int .i64 k, .int .i64 r, .int .i64 1, .int .i64 0, .slice A1 0 p1, .int .u64 S, .int .i64 0, .int .i64 0, .slice none 0 0, .int .u64 0, .bool true], .int .i64 0]) (by simp [results, Tryz.results16, go_sem, *]) rfl ⟨A1, p1, none, 0, rfl, prov_nil _ _ _ _ _, prov_nil _ _ _ _ _, Hb3.out⟩
end Go.Proofs.YtclgncaghiinhaaGreatDoor
