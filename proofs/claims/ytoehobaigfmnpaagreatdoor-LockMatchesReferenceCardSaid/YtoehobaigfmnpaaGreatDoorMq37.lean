/- Keeps, the helpers of innkeeperlaw37: kept, guest, right. -/
import Derived.Deep.CutRange
import Derived.Test.YtoehobaigfmnpaaGreatDoorMq20
import Derived.Test.YtoehobaigfmnpaaGreatDoorMq21
import Derived.Test.YtoehobaigfmnpaaGreatDoorMq35
import Derived.Test.YtoehobaigfmnpaaGreatDoorMq36
set_option linter.unusedSimpArgs false
set_option linter.unusedVariables false
set_option maxRecDepth 100000
namespace Go.Proofs.YtoehobaigfmnpaaGreatDoor
open Go.RowKit
section
open Go.RowKit Go.Maps
def gst (id door n : Int) : Crd := ⟨id, 1, door, n, 100, 900, 0, 0, 0⟩
theorem gst_fit {id door n : Int} (h1 : -9223372036854775808 ≤ id ∧ id ≤ 9223372036854775807) (h2 : -9223372036854775808 ≤ door ∧ door ≤ 9223372036854775807) (h3 : -9223372036854775808 ≤ n ∧ n ≤ 9223372036854775807) : CFit (gst id door n) :=
 ⟨h1, by simp [gst], h2, h3, by simp [gst], by simp [gst], by simp [gst], by simp [gst], by simp [gst]⟩
theorem gst_v {id door n : Int} {e s : Int} (h1 : 1 ≤ id ∧ id ≤ 1000000) (h2 : 1 ≤ door ∧ door ≤ 400) (h3 : 1 ≤ n ∧ n ≤ 1000000000) (he : 0 ≤ e ∧ e < 1073741789) (hs : 0 ≤ s ∧ s < 1073741789) : cvB ((gst id door n).sig e s) = true := by
 exact cvB_iff.2 ⟨⟨he, hs, h1, by simp [gst, Crd.sig], by simp [gst, Crd.sig], by simp [gst, Crd.sig]⟩, .inl ⟨rfl, h2, h3, rfl⟩⟩
theorem sig_nat {s o : Nat} {l : List Int} : (0 ≤ ((sigE s o l : Nat) : Int) ∧ ((sigE s o l : Nat) : Int) < 1073741789) ∧ 0 ≤ ((sigS s o l : Nat) : Int) ∧ ((sigS s o l : Nat) : Int) < 1073741789 := by
 have h1 := sigE_lt s o l
 have h2 := sigS_lt s o l
 have : QQ = 1073741789 := rfl
 omega
theorem chk_right {c : Crd} {s o : Nat} (hv : cvB (c.sig (sigE s o c.msg) (sigS s o c.msg)) = true) : chkB (c.sig (sigE s o c.msg) (sigS s o c.msg)) ((pw 4 s PP : Nat) : Int) = true ∧ chkE (c.sig (sigE s o c.msg) (sigS s o c.msg)) ((pw 4 s PP : Nat) : Int) = 0 := by
 have hm : memZ ((pw 4 s PP : Nat) : Int) = true := memZ_pw
 refine ⟨?_, by simp [chkE, hv, hm]⟩
 rw [chkB, hv, hm, Bool.true_and, Bool.true_and, msg_sig]
 exact right_law s o c.msg
end
section
open Go.RowKit Go.Maps
def mkdC (c : Crd) (s o : Int) : Crd := if mayMk c s o = true then c.sig (sigE s.toNat o.toNat c.msg) (sigS s.toNat o.toNat c.msg) else Crd.zero
def mkdE (c : Crd) (s o : Int) : Int := if mayMk c s o = true then 0 else 1
theorem may_nat {c : Crd} {s o : Int} (h : mayMk c s o = true) : cvB (c.sig 0 0) = true ∧ wthB s 1 = true ∧ wthB o 1 = true ∧ ((s.toNat : Nat) : Int) = s ∧ ((o.toNat : Nat) : Int) = o := by
 simp only [mayMk, Bool.and_eq_true] at h
 obtain ⟨h1, h2, h3⟩ := h
 have := wthB_iff.1 h2
 have := wthB_iff.1 h3
 exact ⟨h1, h2, h3, by omega, by omega⟩
theorem cmake_any (c : Crd) (s o : Int) (hc : CFit c) (w : World) (ht : Tab w) :
  Calls Tryz.prog 49 #[.agg c.cells.toArray, .int .i64 s, .int .i64 o] w fun e w' => e = .returned (.tuple #[.agg (mkdC c s o).cells.toArray, .int .i64 (mkdE c s o)]) ∧ Below w.heap.size w w' := by
 cases h : mayMk c s o with
 | true =>
  obtain ⟨h1, h2, h3, h4, h5⟩ := may_nat h
  have := cmake_yes c s.toNat o.toNat hc h1 (by rw [h4]; exact h2) (by rw [h5]; exact h3) w ht
  rw [h4, h5] at this
  rw [mkdC, mkdE, if_pos h, if_pos h]; exact this
 | false =>
  rw [mkdC, mkdE, if_neg (by simp [h]), if_neg (by simp [h])]
  exact cmake_no c s o hc h w
theorem mkd_fit {c : Crd} (s o : Int) (hc : CFit c) : CFit (mkdC c s o) := by
 unfold mkdC; split
 ·have := @sig_int s.toNat o.toNat c.msg; exact hc.sig this.1 this.2
 ·exact cfit_zero
theorem mkd_v {c : Crd} {s o : Int} (h : mayMk c s o = true) : cvB (mkdC c s o) = true := by
 obtain ⟨h1, _⟩ := may_nat h
 have hn := @sig_nat s.toNat o.toNat c.msg
 rw [mkdC, if_pos h]
 rw [cvB_iff] at h1 ⊢
 obtain ⟨⟨_, _, b1, b2, b3, b4⟩, k⟩ := h1
 exact ⟨⟨hn.1, hn.2, b1, b2, b3, b4⟩, k⟩
theorem mkd_right {c : Crd} {s o : Int} (h : mayMk c s o = true) : chkB (mkdC c s o) ((pw 4 s.toNat PP : Nat) : Int) = true ∧ chkE (mkdC c s o) ((pw 4 s.toNat PP : Nat) : Int) = 0 := by
 have hv := mkd_v h
 rw [mkdC, if_pos h] at hv ⊢
 exact chk_right hv
end
def nwR (d k r : Int) : Lk := if fmB d k r = true then ⟨d, k, r, Slt.made 1 0 [], Slt.zero, true⟩ else Lk.zero
def nwE (d k r : Int) : Int := if fmB d k r = true then 0 else 1
theorem mkE10 : mkE 1 0 [] = 0 := by decide
theorem mkS10 : mkS 1 0 [] = Slt.made 1 0 [] := by rw [mkS, if_pos mkE10]
set_option maxHeartbeats 4000000 in
theorem lnew_any (d k r : Int) (w : World) (ht : Tab w) : Calls Tryz.prog 8 #[.int .i64 d, .int .i64 k, .int .i64 r] w (LockErr none [] none [] (nwR d k r) (nwE d k r) w) := by
 have q2 := fun W => formed_any ⟨d, k, r, Slt.zero, Slt.zero, true⟩ none 0 0 none 0 0 W
 unfold Lk.cells Slt.zero at q2
 dsimp only at q2
 obtain ⟨w0, hw0⟩ : ∃ W, (w.alloc (.cells #[.int .i64 0, .int .i64 0, .int .i64 0, .int .i64 0, .int .i64 0, .slice none 0 0, .int .u64 0, .int .i64 0, .int .i64 0, .slice none 0 0, .int .u64 0, .bool false] 28)).alloc (.cells #[.int .i64 d, .int .i64 k, .int .i64 r, .int .i64 0, .int .i64 0, .slice none 0 0, .int .u64 0, .int .i64 0, .int .i64 0, .slice none 0 0, .int .u64 0, .bool true] 56) = W := ⟨_, rfl⟩
 have bb0 : Below w.heap.size w w0 := by rw [← hw0]; exact ((Below.refl _ _).alloc (Nat.le_refl _) _).alloc (by simp) _
 have g0 : Blk w0 w.heap.size #[.int .i64 0, .int .i64 0, .int .i64 0, .int .i64 0, .int .i64 0, .slice none 0 0, .int .u64 0, .int .i64 0, .int .i64 0, .slice none 0 0, .int .u64 0, .bool false] := by rw [← hw0]; exact (blk_new rfl).alloc _
 have k0 : Blk w0 (w.heap.size + 1) #[.int .i64 d, .int .i64 k, .int .i64 r, .int .i64 0, .int .i64 0, .slice none 0 0, .int .u64 0, .int .i64 0, .int .i64 0, .slice none 0 0, .int .u64 0, .bool true] := by rw [← hw0]; exact blk_new (by simp)
 have q1 := make_any 1 0 none 0 0 [] rfl w0 (by omega) (by omega) (fun i hi => absurd hi (by simp)) (by omega) (fun x hx => absurd hx (by simp)) (ht.below bb0)
 rw [mkE10, mkS10] at q1
 unfold SlotErr Slt.made at q1
 dsimp only [List.length_nil] at q1
 cases hv : fmB d k r with
 | false =>
  have e1 : nwR d k r = Lk.zero := by simp [nwR, hv]
  have e2 : nwE d k r = 1 := by simp [nwE, hv]
  rw [hv] at q2
  rw [e1, e2]
  generalize sumS 1 0 [] = S at *
  have ⟨H_bb0, H_k0, H_g0, H_hw0, H_q1, H_q2, H_ht⟩ := hid7 bb0 k0 g0 hw0 q1 q2 ht; clear bb0 k0 g0 hw0 q1 q2 ht
  go_enter Tryz.func8, Tryz.ntmps8
  go_wp2_with fail
  rw [H_hw0.out]
  go_wp2_with fail
  (with_reducible refine (H_q1.out).mono ?_)
  rintro e w1 ⟨A1, p1, rfl, own1, b1⟩
  have c1 : Below w0.heap.size w0 w1 := Below.trans belt (b1.mono omh)
  have s1 := c1.size
  have bb1 := H_bb0.out.trans (c1.mono H_bb0.out.size)
  have k1 := H_k0.out.below c1
  have g1 := H_g0.out.below c1
  have ⟨H_b1, H_c1, H_bb1, H_k1, H_g1⟩ := hid5 b1 c1 bb1 k1 g1; clear b1 c1 bb1 k1 g1
  obtain ⟨y0, y1, y2, y3, y4, y5, y6, y7, y8, y9, y10, y11⟩ := at12_of H_k1.out
  have ly := (H_k1.out 0 _ rfl).lt
  go_wp2_with fail
  (with_reducible refine (H_q2.out _).mono ?_)
  rintro e w2 ⟨rfl, b2⟩
  have c2 : Below w1.heap.size w1 w2 := Below.trans belt (b2.mono omh)
  have s2 := c2.size
  have bb2 := H_bb1.out.trans (c2.mono H_bb1.out.size)
  have k2 := H_k1.out.below c2
  have g2 := H_g1.out.below c2
  have ⟨H_b2, H_c2, H_bb2, H_k2, H_g2⟩ := hid5 b2 c2 bb2 k2 g2; clear b2 c2 bb2 k2 g2
  clear y0 y1 y2 y3 y4 y5 y6 y7 y8 y9 y10 y11
  obtain ⟨z0, z1, z2, z3, z4, z5, z6, z7, z8, z9, z10, z11⟩ := at12_of H_g2.out
  have lz := (H_g2.out 0 _ rfl).lt
  have b3 : Below w.heap.size w (putL w2 w.heap.size 0 [.int .i64 0, .int .i64 0, .int .i64 0, .int .i64 0, .int .i64 0, .slice none 0 0, .int .u64 0, .int .i64 0, .int .i64 0, .slice none 0 0, .int .u64 0, .bool false]) := putL_below (Nat.le_refl _) _ _ _ H_bb2.out
  simp only [putL, Nat.reduceAdd] at b3
  have H_b3 := Lib.hid b3; clear b3
  obtain ⟨f0, f1, f2, f3, f4, f5, f6, f7, f8, f9, f10, f11⟩ := free12_of H_g2.out
  go_wp2_with fail
  refine bodyPost_ret (v := .tuple #[.agg #[.int .i64 0, .int .i64 0, .int .i64 0, .int .i64 0, .int .i64 0, .slice none 0 0, .int .u64 0, .int .i64 0, .int .i64 0, .slice none 0 0, .int .u64 0, .bool false], .int .i64 1]) (by simp [results, Tryz.results8, go_sem, *]) rfl (lockErr_zero H_b3.out)
 | true =>
  have e1 : nwR d k r = ⟨d, k, r, Slt.made 1 0 [], Slt.zero, true⟩ := by simp [nwR, hv]
  have e2 : nwE d k r = 0 := by simp [nwE, hv]
  rw [hv] at q2
  rw [e1, e2]
  unfold LockErr Lk.cells Slt.made Slt.zero
  dsimp only [List.length_nil]
  generalize sumS 1 0 [] = S at *
  have ⟨H_bb0, H_k0, H_g0, H_hw0, H_q1, H_q2, H_ht⟩ := hid7 bb0 k0 g0 hw0 q1 q2 ht; clear bb0 k0 g0 hw0 q1 q2 ht
  go_enter Tryz.func8, Tryz.ntmps8
  go_wp2_with fail
  rw [H_hw0.out]
  go_wp2_with fail
  (with_reducible refine (H_q1.out).mono ?_)
  rintro e w1 ⟨A1, p1, rfl, own1, b1⟩
  have c1 : Below w0.heap.size w0 w1 := Below.trans belt (b1.mono omh)
  have s1 := c1.size
  have bb1 := H_bb0.out.trans (c1.mono H_bb0.out.size)
  have k1 := H_k0.out.below c1
  have g1 := H_g0.out.below c1
  have ⟨H_b1, H_c1, H_bb1, H_k1, H_g1⟩ := hid5 b1 c1 bb1 k1 g1; clear b1 c1 bb1 k1 g1
  obtain ⟨y0, y1, y2, y3, y4, y5, y6, y7, y8, y9, y10, y11⟩ := at12_of H_k1.out
  have ly := (H_k1.out 0 _ rfl).lt
  have o0 : Blk (w1.alloc (.cells #[.int .i64 1, .int .i64 0, .slice A1 0 p1, .int .u64 S] 25)) w1.heap.size #[.int .i64 1, .int .i64 0, .slice A1 0 p1, .int .u64 S] := blk_new rfl
  go_wp2_with fail
  (with_reducible refine (H_q2.out _).mono ?_)
  rintro e w2 ⟨rfl, b2⟩
  have c2 : Below w1.heap.size w1 w2 := Below.trans belt (b2.mono omh)
  have s2 := c2.size
  have bb2 := H_bb1.out.trans (c2.mono H_bb1.out.size)
  have k2 := H_k1.out.below c2
  have g2 := H_g1.out.below c2
  have ⟨H_b2, H_c2, H_bb2, H_k2, H_g2⟩ := hid5 b2 c2 bb2 k2 g2; clear b2 c2 bb2 k2 g2
  clear y0 y1 y2 y3 y4 y5 y6 y7 y8 y9 y10 y11
  have o2 := o0.below H_b2.out
  have lo := (o2 0 _ rfl).lt
  have H_o2 := Lib.hid o2; clear o2
  obtain ⟨z0, z1, z2, z3, z4, z5, z6, z7, z8, z9, z10, z11⟩ := at12_of H_g2.out
  obtain ⟨y0, y1, y2, y3, y4, y5, y6, y7, y8, y9, y10, y11⟩ := at12_of H_k2.out
  obtain ⟨x0, x1, x2, x3⟩ := at4_of H_o2.out
  have lz := (H_g2.out 0 _ rfl).lt
  have ly2 := (H_k2.out 0 _ rfl).lt
  have b3 : Below w.heap.size w (putL (putL w2 (w.heap.size + 1) 3 [.int .i64 1, .int .i64 0, .slice A1 0 p1, .int .u64 S]) w.heap.size 0 [.int .i64 d, .int .i64 k, .int .i64 r, .int .i64 1, .int .i64 0, .slice A1 0 p1, .int .u64 S, .int .i64 0, .int .i64 0, .slice none 0 0, .int .u64 0, .bool true]) := putL_below (Nat.le_refl _) _ _ _ (putL_below (by omega) _ _ _ H_bb2.out)
  simp only [putL, Nat.reduceAdd] at b3
  have H_b3 := Lib.hid b3; clear b3
  obtain ⟨f0, f1, f2, f3, f4, f5, f6, f7, f8, f9, f10, f11⟩ := free12_of H_g2.out
  obtain ⟨v0, v1, v2, v3, v4, v5, v6, v7, v8, v9, v10, v11⟩ := free12_of H_k2.out
  go_wp2_with fail
  refine bodyPost_ret (v := .tuple #[.agg #[.int .i64 d, .int .i64 k, .int .i64 r, .int .i64 1, .int .i64 0, .slice A1 0 p1, .int .u64 S, .int .i64 0, .int .i64 0, .slice none 0 0, .int .u64 0, .bool true], .int .i64 0]) (by simp [results, Tryz.results8, go_sem, *]) rfl ⟨A1, p1, none, 0, rfl, prov_nil _ _ _ _ _, prov_nil _ _ _ _ _, H_b3.out⟩
def hcd (id n : Int) : Crd := mkdC (gst id 12 n) 5 7
theorem hcd_may {id n : Int} (h1 : 1 ≤ id ∧ id ≤ 1000000) (h2 : 1 ≤ n ∧ n ≤ 1000000000) : mayMk (gst id 12 n) 5 7 = true := by
 have := gst_v (id := id) (door := 12) (n := n) (e := 0) (s := 0) h1 (by omega) h2 (by omega) (by omega)
 have a : wthB 5 1 = true := by decide
 have b : wthB 7 1 = true := by decide
 rw [mayMk, this, a, b]; rfl
theorem hcd_fit (id n : Int) (h1 : 1 ≤ id ∧ id ≤ 1000000) (h2 : 1 ≤ n ∧ n ≤ 1000000000) : CFit (hcd id n) := mkd_fit 5 7 (gst_fit (by omega) (by omega) (by omega))
structure Hcd (c : Crd) (id n : Int) : Prop where
 i : c.i = id
 k : c.k = 1
 d : c.d = 12
 n : c.n = n
 f : c.f = 100
 u : c.u = 900
 v : cvB c = true
 g : chkB c 1024 = true
theorem hcd_at {id n : Int} (h1 : 1 ≤ id ∧ id ≤ 1000000) (h2 : 1 ≤ n ∧ n ≤ 1000000000) : Hcd (hcd id n) id n := by
 have hm := hcd_may h1 h2
 have hv := mkd_v hm
 have hr := (mkd_right hm).1
 have e5 : (5 : Int).toNat = 5 := rfl
 rw [e5, pw45] at hr
 have e : hcd id n = (gst id 12 n).sig (sigE (5 : Int).toNat (7 : Int).toNat (gst id 12 n).msg) (sigS (5 : Int).toNat (7 : Int).toNat (gst id 12 n).msg) := by rw [hcd, mkdC, if_pos hm]
 refine ⟨?_, ?_, ?_, ?_, ?_, ?_, hv, hr⟩ <;> rw [e] <;> rfl
def hl0 : Lk := ⟨12, 1024, 5, Slt.made 1 0 [], Slt.zero, true⟩
theorem made10 : (Slt.made 1 0 []).ok = true := made_ok (by decide)
theorem best_l0 : bestI (Slt.made 1 0 []) Slt.zero = 0 ∧ bestB (Slt.made 1 0 []) Slt.zero = true := by simp [bestI, bestB, zero_ok, made10]
theorem hmem1024 : memZ 1024 = true := by
 have := (hcd_at (id := 1) (n := 3) (by omega) (by omega)).g
 unfold chkB at this
 simp only [Bool.and_eq_true] at this
 exact this.1.2
theorem fm_l0 : fmB 12 1024 5 = true := by
 have a : decide ((1 : Int) ≤ 12) = true := by decide
 have b : decide ((12 : Int) ≤ 400) = true := by decide
 have c : errB 5 = true := by decide
 rw [fmB, a, b, c, hmem1024]; rfl
theorem lv_l0 : lvB hl0 = true := by
 have a : bestB hl0.x hl0.y = true := best_l0.2
 have b : fmB hl0.d hl0.k hl0.r = true := fm_l0
 rw [lvB, a, b]; rfl
theorem keep_l0 : keepS hl0 = Slt.made 1 0 [] := by
 have a : bestI hl0.x hl0.y = 0 := best_l0.1
 rw [keepS, a]; rfl
theorem nw_l0 : nwR 12 1024 5 = hl0 ∧ nwE 12 1024 5 = 0 := by rw [nwR, nwE, if_pos fm_l0, if_pos fm_l0]; exact ⟨rfl, rfl⟩
theorem lv_zero : lvB Lk.zero = false := by
 have : bestB Lk.zero.x Lk.zero.y = false := best0.2
 rw [lvB, this]; rfl
structure Hlk (z : Lk) (n s : Int) : Prop where
 d : z.d = 12
 k : z.k = 1024
 r : z.r = 5
 v : lvB z = true
 c : (keepS z).c = n
 l : (keepS z).l = []
 s : (keepS z).s ≤ s
theorem hlk_l0 : Hlk hl0 0 1 := ⟨rfl, rfl, rfl, lv_l0, by rw [keep_l0]; rfl, by rw [keep_l0]; rfl, by rw [keep_l0]; exact Int.le_refl _⟩
theorem hacc {l : Lk} {c : Crd} {n s id k : Int} {t : Int} (hl : Hlk l n s) (hc : Hcd c id k) : accB l c t = true ↔ (askB t 5 100 900 = true ∧ mayB t 5 100 900 = true) ∧ n ≤ k := by
 rw [acc_iff, hl.r, hc.f, hc.u, hc.d, hl.d, hl.l, hl.c, hc.n, hc.k]
 simp
theorem haft {l : Lk} {c : Crd} {n s id k : Int} (hl : Hlk l n s) (hc : Hcd c id k) : aftC l c = max n k ∧ aftL l c = [] := by
 rw [aftC, aftL, hc.k, if_pos rfl, if_neg (by omega), hl.c, hl.l, hc.n]; exact ⟨rfl, rfl⟩
theorem hsh {l : Lk} {c : Crd} {n s id k t a : Int} (hl : Hlk l n s) (hc : Hcd c id k) (hu : l.up = true) (ha : ¬ a < 0 ∧ ¬ 3 < a) (ht : timeB t = true) (hk : 0 ≤ k ∧ k ≤ 1000000000) (hn : 0 ≤ n ∧ n ≤ 1000000000) (hs : s < 1000000000) :
  shE l c t a = if (askB t 5 100 900 = true ∧ mayB t 5 100 900 = true) ∧ n ≤ k then 0 else 50 := by
 have hg : chkB c l.k = true := by rw [hl.k]; exact hc.g
 rw [shE, if_pos ⟨hl.v, hc.v, ht, ha.1, ha.2⟩, if_pos hu, if_pos hg]
 by_cases h : (askB t 5 100 900 = true ∧ mayB t 5 100 900 = true) ∧ n ≤ k
 ·rw [if_pos ((hacc hl hc).2 h), if_pos h, shWE]
  split
  ·rw [(haft hl hc).1, (haft hl hc).2, wrE, if_neg (by simp), if_neg, if_neg, if_neg]
   ·rw [top_keep (lv_best hl.v)]; have := hl.s; omega
   ·have : wB a 0 3 = true := wB_iff.2 (by omega)
    rw [this]; decide
   ·have : fldB 0 (max n k) [] = true := fldB_iff.2 ⟨⟨by omega, by omega, by simp⟩, rfl⟩
    rw [this]; decide
  ·rfl
 ·rw [if_neg (fun h2 => h ((hacc hl hc).1 h2)), if_neg h]
theorem hleft {l : Lk} {c : Crd} {n s id k t a : Int} (hl : Hlk l n s) (hc : Hcd c id k) (h : shE l c t a = 0) : Hlk (shR l c t a) (if a < 2 then n else max n k) (s + 1) ∧ (shR l c t a).up = decide (a = 3) := by
 have hL := left_of h
 refine ⟨⟨hL.d.trans hl.d, hL.k.trans hl.k, hL.r.trans hl.r, hL.v, ?_, ?_, by have := hL.s; have := hl.s; omega⟩, hL.up⟩
 ·by_cases ha : a < 2
  ·rw [if_pos ha, hL.old ha, hl.c]
  ·rw [if_neg ha, (hL.new (by omega)).1, (haft hl hc).1]
 ·by_cases ha : a < 2
  ·rw [hL.old ha, hl.l]
  ·rw [(hL.new (by omega)).2, (haft hl hc).2]
theorem hup {l : Lk} {n s : Int} (hl : Hlk l n s) (u : Bool) : Hlk { l with up := u } n s := ⟨hl.d, hl.k, hl.r, hl.v, hl.c, hl.l, hl.s⟩
theorem hpw {l : Lk} {n s : Int} (hl : Hlk l n s) (u : Bool) : Hlk (pwR l u) n s ∧ pwE l = 0 ∧ (pwR l u).up = u := by
 rw [(pw_of hl.v u).1, (pw_of hl.v u).2]; exact ⟨hup hl u, rfl, rfl⟩
theorem hopen {l : Lk} {c : Crd} {id k t a : Int} (hc : Hcd c id k) (h : shE l c t a = 0) : shO l c t a = decide (a = 3) := by
 have : decide (c.k = 3) = false := decide_eq_false (by rw [hc.k]; omega)
 rw [shO, if_pos h, this]; simp
theorem hdark {l : Lk} {c : Crd} {n s id k t : Int} (hl : Hlk l n s) (hc : Hcd c id k) (hu : l.up = false) (ht : timeB t = true) : shE l c t 3 = 51 := by
 rw [shE, if_pos ⟨hl.v, hc.v, ht, by omega, by omega⟩, if_neg (by simp [hu])]
set_option maxHeartbeats 4000000 in
theorem rlkeeps_any (l : Lk) (A : Option Addr) (n p : Nat) (B : Option Addr) (m q : Nat) (w : World) (hx : SlotIs w A n l.x) (hy : SlotIs w B m l.y) :
  Calls Tryz.prog 39 #[.agg (l.cells A n p B m q).toArray] w fun e w' => e = .returned (.agg (if bestI l.x l.y = 1 then #[.int .i64 l.y.s, .int .i64 l.y.c, .slice B m q, .int .u64 l.y.u] else #[.int .i64 l.x.s, .int .i64 l.x.c, .slice A n p, .int .u64 l.x.u])) ∧ Below w.heap.size w w' := by
 obtain ⟨w0, hw0⟩ : ∃ W, (w.alloc (.cells (l.cells A n p B m q).toArray 28)).alloc (.cells #[.int .i64 0, .int .i64 0, .slice none 0 0, .int .u64 0] 25) = W := ⟨_, rfl⟩
 have bb0 : Below w.heap.size w w0 := by rw [← hw0]; exact ((Below.refl _ _).alloc (Nat.le_refl _) _).alloc (by simp) _
 have k0 : Blk w0 w.heap.size (l.cells A n p B m q).toArray := by rw [← hw0]; exact (blk_new rfl).alloc _
 have g0 : Blk w0 (w.heap.size + 1) #[.int .i64 0, .int .i64 0, .slice none 0 0, .int .u64 0] := by rw [← hw0]; exact blk_new (by simp)
 have q1 := rbest_any l.x l.y A n p B m q w0 (hx.below bb0) (hy.below bb0)
 have hI := best01 l.x l.y
 generalize bestI l.x l.y = I at *
 generalize bestB l.x l.y = T at *
 unfold Lk.cells at k0 hw0 ⊢
 have ⟨H_bb0, H_k0, H_g0, H_hw0, H_q1, H_hx, H_hy⟩ := hid7 bb0 k0 g0 hw0 q1 hx hy; clear bb0 k0 g0 hw0 q1 hx hy
 go_enter Tryz.func39, Tryz.ntmps39
 go_wp2_with fail
 rw [H_hw0.out]
 obtain ⟨y0, y1, y2, y3, y4, y5, y6, y7, y8, y9, y10, y11⟩ := at12_of H_k0.out
 go_wp2_with fail
 (with_reducible refine (H_q1.out).mono ?_)
 rintro e w1 ⟨rfl, b1⟩
 have c1 : Below w0.heap.size w0 w1 := Below.trans belt (b1.mono omh)
 have s1 := c1.size
 have bb1 := H_bb0.out.trans (c1.mono H_bb0.out.size)
 have k1 := H_k0.out.below c1
 have g1 := H_g0.out.below c1
 have ⟨H_b1, H_c1, H_bb1, H_k1, H_g1⟩ := hid5 b1 c1 bb1 k1 g1; clear b1 c1 bb1 k1 g1
 clear y0 y1 y2 y3 y4 y5 y6 y7 y8 y9 y10 y11
 obtain ⟨y0, y1, y2, y3, y4, y5, y6, y7, y8, y9, y10, y11⟩ := at12_of H_k1.out
 obtain ⟨z0, z1, z2, z3⟩ := at4_of H_g1.out
 obtain ⟨f0, f1, f2, f3⟩ := free4_of H_g1.out
 have ly := (H_k1.out 0 _ rfl).lt
 have lz := (H_g1.out 0 _ rfl).lt
 rcases hI with rfl | rfl
 ·have b2 : Below w.heap.size w (putL w1 (w.heap.size + 1) 0 [.int .i64 l.x.s, .int .i64 l.x.c, .slice A n p, .int .u64 l.x.u]) := putL_below (by omega) _ _ _ H_bb1.out
  simp only [putL, Nat.reduceAdd] at b2
  have H_b2 := Lib.hid b2; clear b2
  go_wp2_with fail
  refine bodyPost_ret (v := .agg #[.int .i64 l.x.s, .int .i64 l.x.c, .slice A n p, .int .u64 l.x.u]) (by simp [results, Tryz.results39, go_sem, *]) rfl ⟨rfl, H_b2.out⟩
 ·have b2 : Below w.heap.size w (putL w1 (w.heap.size + 1) 0 [.int .i64 l.y.s, .int .i64 l.y.c, .slice B m q, .int .u64 l.y.u]) := putL_below (by omega) _ _ _ H_bb1.out
  simp only [putL, Nat.reduceAdd] at b2
  have H_b2 := Lib.hid b2; clear b2
  go_wp2_with fail
  refine bodyPost_ret (v := .agg #[.int .i64 l.y.s, .int .i64 l.y.c, .slice B m q, .int .u64 l.y.u]) (by simp [results, Tryz.results39, go_sem, *]) rfl ⟨rfl, H_b2.out⟩
theorem rlkeeps_as (l : Lk) (A : Option Addr) (n p : Nat) (B : Option Addr) (m q : Nat) (w : World) (hx : SlotIs w A n l.x) (hy : SlotIs w B m l.y) :
  ∃ K t, SlotIs w K (keepS l).l.length (keepS l) ∧ ∀ W, Below w.heap.size w W → Calls Tryz.prog 39 #[.agg (l.cells A n p B m q).toArray] W fun e w' => e = .returned (.agg #[.int .i64 (keepS l).s, .int .i64 (keepS l).c, .slice K (keepS l).l.length t, .int .u64 (keepS l).u]) ∧ Below W.heap.size W w' := by
 have hn := hx.len
 have hm := hy.len
 subst hn hm
 by_cases h : bestI l.x l.y = 1
 ·have e : keepS l = l.y := by rw [keepS, if_pos h]
  rw [e]
  refine ⟨B, q, hy, fun W hW => ?_⟩
  have := rlkeeps_any l A _ p B _ q W (hx.below hW) (hy.below hW)
  rw [if_pos h] at this
  exact this
 ·have e : keepS l = l.x := by rw [keepS, if_neg h]
  rw [e]
  refine ⟨A, p, hx, fun W hW => ?_⟩
  have := rlkeeps_any l A _ p B _ q W (hx.below hW) (hy.below hW)
  rw [if_neg h] at this
  exact this
set_option maxHeartbeats 4000000 in
theorem lkept_any (l : Lk) (A : Option Addr) (n p : Nat) (B : Option Addr) (m q : Nat) (w : World) (hx : SlotIs w A n l.x) (hy : SlotIs w B m l.y) :
  Calls Tryz.prog 20 #[.agg (l.cells A n p B m q).toArray] w fun e w' => e = .returned (.int .i64 (keepS l).c) ∧ Below w.heap.size w w' := by
 obtain ⟨w0, hw0⟩ : ∃ W, w.alloc (.cells (l.cells A n p B m q).toArray 28) = W := ⟨_, rfl⟩
 have bb0 : Below w.heap.size w w0 := by rw [← hw0]; exact (Below.refl _ _).alloc (Nat.le_refl _) _
 have k0 : Blk w0 w.heap.size (l.cells A n p B m q).toArray := by rw [← hw0]; exact blk_new rfl
 obtain ⟨K, t, _, q1⟩ := rlkeeps_as l A n p B m q w hx hy
 generalize keepS l = s at *
 unfold Lk.cells at k0 hw0 q1 ⊢
 have hfd : ∀ W : World, (Instr.field 25 (.agg #[.int .i64 s.s, .int .i64 s.c, .slice K s.l.length t, .int .u64 s.u]) 1).run Tryz.prog W = .ok (.int .i64 s.c) W := fun _ => by kernel_rfl
 have ⟨H_bb0, H_k0, H_hw0, H_q1, H_hx, H_hy⟩ := hid6 bb0 k0 hw0 q1 hx hy; clear bb0 k0 hw0 q1 hx hy
 go_enter Tryz.func20, Tryz.ntmps20
 go_wp2_with fail
 rw [H_hw0.out]
 obtain ⟨y0, y1, y2, y3, y4, y5, y6, y7, y8, y9, y10, y11⟩ := at12_of H_k0.out
 go_wp2_with fail
 (with_reducible refine (H_q1.out _ ?_).mono ?_)
 ·exact H_bb0.out
 rintro e w1 ⟨rfl, b1⟩
 have c1 : Below w0.heap.size w0 w1 := Below.trans belt (b1.mono omh)
 have s1 := c1.size
 have bb1 := H_bb0.out.trans (c1.mono H_bb0.out.size)
 have ⟨H_b1, H_c1, H_bb1⟩ := hid3 b1 c1 bb1; clear b1 c1 bb1
 clear y0 y1 y2 y3 y4 y5 y6 y7 y8 y9 y10 y11
 go_wp2_with fail
 go_ret
 exact ⟨rfl, H_bb1.out⟩
set_option maxHeartbeats 4000000 in
theorem lguest37_any (id n : Int) (h1 : 1 ≤ id ∧ id ≤ 1000000) (h2 : 1 ≤ n ∧ n ≤ 1000000000) (w : World) (ht : Tab w) :
  Calls Tryz.prog 21 #[.int .i64 id, .int .i64 n] w fun e w' => e = .returned (.tuple #[.agg (hcd id n).cells.toArray, .bool true]) ∧ Below w.heap.size w w' := by
 obtain ⟨w0, hw0⟩ : ∃ W, w.alloc (.cells #[.int .i64 0, .int .i64 0, .int .i64 0, .int .i64 0, .int .i64 0, .int .i64 0, .int .i64 0, .int .i64 0, .int .i64 0] 32) = W := ⟨_, rfl⟩
 have bb0 : Below w.heap.size w w0 := by rw [← hw0]; exact (Below.refl _ _).alloc (Nat.le_refl _) _
 have g0 : Blk w0 w.heap.size #[.int .i64 0, .int .i64 0, .int .i64 0, .int .i64 0, .int .i64 0, .int .i64 0, .int .i64 0, .int .i64 0, .int .i64 0] := by rw [← hw0]; exact blk_new rfl
 have q1 := cmake_any (gst id 12 n) 5 7 (gst_fit (by omega) (by omega) (by omega)) w0 (ht.below bb0)
 have e1 : mkdE (gst id 12 n) 5 7 = 0 := by rw [mkdE, if_pos (hcd_may h1 h2)]
 rw [e1] at q1
 unfold hcd
 generalize mkdC (gst id 12 n) 5 7 = C at *
 unfold Crd.cells at q1 ⊢
 simp only [gst] at q1
 clear e1
 have ⟨H_bb0, H_g0, H_hw0, H_q1, H_ht, H_h1, H_h2⟩ := hid7 bb0 g0 hw0 q1 ht h1 h2; clear bb0 g0 hw0 q1 ht h1 h2
 go_enter Tryz.func21, Tryz.ntmps21
 go_wp2_with fail
 rw [H_hw0.out]
 go_wp2_with fail
 (with_reducible refine (H_q1.out).mono ?_)
 rintro e w1 ⟨rfl, b1⟩
 have c1 : Below w0.heap.size w0 w1 := Below.trans belt (b1.mono omh)
 have s1 := c1.size
 have bb1 := H_bb0.out.trans (c1.mono H_bb0.out.size)
 have g1 := H_g0.out.below c1
 have ⟨H_b1, H_c1, H_bb1, H_g1⟩ := hid4 b1 c1 bb1 g1; clear b1 c1 bb1 g1
 obtain ⟨z0, z1, z2, z3, z4, z5, z6, z7, z8⟩ := at9_of H_g1.out
 obtain ⟨f0, f1, f2, f3, f4, f5, f6, f7, f8⟩ := free9_of H_g1.out
 have lz := (H_g1.out 0 _ rfl).lt
 have b2 : Below w.heap.size w ((putL w1 w.heap.size 0 [.int .i64 C.i, .int .i64 C.k, .int .i64 C.d, .int .i64 C.n, .int .i64 C.f, .int .i64 C.u, .int .i64 C.l, .int .i64 C.e, .int .i64 C.s]).alloc (.cells #[.int .i64 C.i, .int .i64 C.k, .int .i64 C.d, .int .i64 C.n, .int .i64 C.f, .int .i64 C.u, .int .i64 C.l, .int .i64 C.e, .int .i64 C.s] 32)) := (putL_below (Nat.le_refl _) _ _ _ H_bb1.out).alloc (by rw [putL_size]; exact H_bb1.out.size) _
 simp only [putL, Nat.reduceAdd] at b2
 have H_b2 := Lib.hid b2; clear b2
 go_wp2_with fail
 refine bodyPost_ret (v := .tuple #[.agg #[.int .i64 C.i, .int .i64 C.k, .int .i64 C.d, .int .i64 C.n, .int .i64 C.f, .int .i64 C.u, .int .i64 C.l, .int .i64 C.e, .int .i64 C.s], .bool true]) (by simp [results, Tryz.results21, go_sem, *]) rfl ⟨rfl, H_b2.out⟩
end Go.Proofs.YtoehobaigfmnpaaGreatDoor
