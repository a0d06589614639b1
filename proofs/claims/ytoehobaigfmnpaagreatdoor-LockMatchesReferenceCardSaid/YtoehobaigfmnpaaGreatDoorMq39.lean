/- Contracts of the reference of locks: Power, New, has, put, Accepts. -/
import Derived.Test.YtoehobaigfmnpaaGreatDoorMq20
import Derived.Test.YtoehobaigfmnpaaGreatDoorMq37
set_option linter.unusedSimpArgs false
set_option linter.unusedVariables false
set_option maxRecDepth 100000
namespace Go.Proofs.YtoehobaigfmnpaaGreatDoor
open Go.RowKit
set_option maxHeartbeats 4000000 in
theorem rlpower_any (l : Lk) (u : Bool) (A : Option Addr) (n p : Nat) (B : Option Addr) (m q : Nat) (w : World) (hx : SlotIs w A n l.x) (hy : SlotIs w B m l.y) :
  Calls Tryz.prog 16 #[.agg (l.cells A n p B m q).toArray, .bool u] w (LockErr A l.x.l B l.y.l (pwR l u) (pwE l) w) := by
 obtain ⟨w0, hw0⟩ : ∃ W, (w.alloc (.cells (l.cells A n p B m q).toArray 28)).alloc (.cells #[.int .i64 0, .int .i64 0, .int .i64 0, .int .i64 0, .int .i64 0, .slice none 0 0, .int .u64 0, .int .i64 0, .int .i64 0, .slice none 0 0, .int .u64 0, .bool false] 28) = W := ⟨_, rfl⟩
 have bb0 : Below w.heap.size w w0 := by rw [← hw0]; exact ((Below.refl _ _).alloc (Nat.le_refl _) _).alloc (by simp) _
 have k0 : Blk w0 w.heap.size (l.cells A n p B m q).toArray := by rw [← hw0]; exact (blk_new rfl).alloc _
 have g0 : Blk w0 (w.heap.size + 1) #[.int .i64 0, .int .i64 0, .int .i64 0, .int .i64 0, .int .i64 0, .slice none 0 0, .int .u64 0, .int .i64 0, .int .i64 0, .slice none 0 0, .int .u64 0, .bool false] := by rw [← hw0]; exact blk_new (by simp)
 have q1 := rlvalid_any l A n p B m q w0 (hx.below bb0) (hy.below bb0)
 cases hv : lvB l with
 | false =>
  have e1 : pwR l u = Lk.zero := by simp [pwR, hv]
  have e2 : pwE l = 1 := by simp [pwE, hv]
  rw [hv] at q1
  rw [e1, e2]
  unfold Lk.cells at k0 hw0 q1 ⊢
  have ⟨H_bb0, H_k0, H_g0, H_hw0, H_q1, H_hx, H_hy⟩ := hid7 bb0 k0 g0 hw0 q1 hx hy; clear bb0 k0 g0 hw0 q1 hx hy
  go_enter Tryz.func16, Tryz.ntmps16
  go_wp2_with fail
  rw [H_hw0.out]
  obtain ⟨y0, y1, y2, y3, y4, y5, y6, y7, y8, y9, y10, y11⟩ := at12_of H_k0.out
  go_wp2_with fail
  (with_reducible refine (H_q1.out).mono ?_)
  rintro e w1 ⟨rfl, b1⟩
  have c1 : Below w0.heap.size w0 w1 := Below.trans belt (b1.mono omh)
  have s1 := c1.size
  have bb1 := H_bb0.out.trans (c1.mono H_bb0.out.size)
  have k1 := H_k0.out.below c1
  have g1 := H_g0.out.below c1
  have ⟨H_b1, H_c1, H_bb1, H_k1, H_g1⟩ := hid5 b1 c1 bb1 k1 g1; clear b1 c1 bb1 k1 g1
  clear y0 y1 y2 y3 y4 y5 y6 y7 y8 y9 y10 y11
  obtain ⟨z0, z1, z2, z3, z4, z5, z6, z7, z8, z9, z10, z11⟩ := at12_of H_g1.out
  have lz := (H_g1.out 0 _ rfl).lt
  have b2 : Below w.heap.size w (putL w1 (w.heap.size + 1) 0 [.int .i64 0, .int .i64 0, .int .i64 0, .int .i64 0, .int .i64 0, .slice none 0 0, .int .u64 0, .int .i64 0, .int .i64 0, .slice none 0 0, .int .u64 0, .bool false]) := putL_below (by omega) _ _ _ H_bb1.out
  simp only [putL, Nat.reduceAdd] at b2
  have H_b2 := Lib.hid b2; clear b2
  obtain ⟨f0, f1, f2, f3, f4, f5, f6, f7, f8, f9, f10, f11⟩ := free12_of H_g1.out
  go_wp2_with fail
  refine bodyPost_ret (v := .tuple #[.agg #[.int .i64 0, .int .i64 0, .int .i64 0, .int .i64 0, .int .i64 0, .slice none 0 0, .int .u64 0, .int .i64 0, .int .i64 0, .slice none 0 0, .int .u64 0, .bool false], .int .i64 1]) (by simp [results, Tryz.results16, go_sem, *]) rfl (lockErr_zero H_b2.out)
 | true =>
  have e1 : pwR l u = { l with up := u } := by simp [pwR, hv]
  have e2 : pwE l = 0 := by simp [pwE, hv]
  have hn := hx.len
  have hm := hy.len
  subst hn hm
  rw [hv] at q1
  rw [e1, e2]
  unfold LockErr Lk.cells
  unfold Lk.cells at k0 hw0 q1
  have ⟨H_bb0, H_k0, H_g0, H_hw0, H_q1, H_hx, H_hy⟩ := hid7 bb0 k0 g0 hw0 q1 hx hy; clear bb0 k0 g0 hw0 q1 hx hy
  go_enter Tryz.func16, Tryz.ntmps16
  go_wp2_with fail
  rw [H_hw0.out]
  obtain ⟨y0, y1, y2, y3, y4, y5, y6, y7, y8, y9, y10, y11⟩ := at12_of H_k0.out
  go_wp2_with fail
  (with_reducible refine (H_q1.out).mono ?_)
  rintro e w1 ⟨rfl, b1⟩
  have c1 : Below w0.heap.size w0 w1 := Below.trans belt (b1.mono omh)
  have s1 := c1.size
  have bb1 := H_bb0.out.trans (c1.mono H_bb0.out.size)
  have k1 := H_k0.out.below c1
  have g1 := H_g0.out.below c1
  have ⟨H_b1, H_c1, H_bb1, H_k1, H_g1⟩ := hid5 b1 c1 bb1 k1 g1; clear b1 c1 bb1 k1 g1
  clear y0 y1 y2 y3 y4 y5 y6 y7 y8 y9 y10 y11
  obtain ⟨y0, y1, y2, y3, y4, y5, y6, y7, y8, y9, y10, y11⟩ := at12_of H_k1.out
  obtain ⟨z0, z1, z2, z3, z4, z5, z6, z7, z8, z9, z10, z11⟩ := at12_of H_g1.out
  have ly := (H_k1.out 0 _ rfl).lt
  have lz := (H_g1.out 0 _ rfl).lt
  have b2 : Below w.heap.size w (putL (putL w1 w.heap.size 11 [.bool u]) (w.heap.size + 1) 0 [.int .i64 l.d, .int .i64 l.k, .int .i64 l.r, .int .i64 l.x.s, .int .i64 l.x.c, .slice A l.x.l.length p, .int .u64 l.x.u, .int .i64 l.y.s, .int .i64 l.y.c, .slice B l.y.l.length q, .int .u64 l.y.u, .bool u]) := putL_below (by omega) _ _ _ (putL_below (Nat.le_refl _) _ _ _ H_bb1.out)
  simp only [putL, Nat.reduceAdd] at b2
  have H_b2 := Lib.hid b2; clear b2
  have fk := (H_k1.out 11 _ rfl).free
  obtain ⟨f0, f1, f2, f3, f4, f5, f6, f7, f8, f9, f10, f11⟩ := free12_of H_g1.out
  go_wp2_with fail
  refine bodyPost_ret (v := .tuple #[.agg #[.int .i64 l.d, .int .i64 l.k, .int .i64 l.r, .int .i64 l.x.s, .int .i64 l.x.c, .slice A l.x.l.length p, .int .u64 l.x.u, .int .i64 l.y.s, .int .i64 l.y.c, .slice B l.y.l.length q, .int .u64 l.y.u, .bool u], .int .i64 0]) (by simp [results, Tryz.results16, go_sem, *]) rfl ⟨A, p, B, q, rfl, prov_old (H_hx.out.below H_b2.out).ints, prov_old (H_hy.out.below H_b2.out).ints, H_b2.out⟩
set_option maxHeartbeats 4000000 in
theorem rlnew_any (d k r : Int) (w : World) : Calls Tryz.prog 9 #[.int .i64 d, .int .i64 k, .int .i64 r] w (LockErr none [] none [] (nwR d k r) (nwE d k r) w) := by
 have q2 := fun W => rlfields_any d k r W
 obtain ⟨w0, hw0⟩ : ∃ W, w.alloc (.cells #[.int .i64 0, .int .i64 0, .int .i64 0, .int .i64 0, .int .i64 0, .slice none 0 0, .int .u64 0, .int .i64 0, .int .i64 0, .slice none 0 0, .int .u64 0, .bool false] 28) = W := ⟨_, rfl⟩
 have bb0 : Below w.heap.size w w0 := by rw [← hw0]; exact (Below.refl _ _).alloc (Nat.le_refl _) _
 have g0 : Blk w0 w.heap.size #[.int .i64 0, .int .i64 0, .int .i64 0, .int .i64 0, .int .i64 0, .slice none 0 0, .int .u64 0, .int .i64 0, .int .i64 0, .slice none 0 0, .int .u64 0, .bool false] := by rw [← hw0]; exact blk_new rfl
 have q1 := fun W => rmake_any 1 0 none 0 0 [] rfl W (by omega) (by omega) (fun i hi => absurd hi (by simp)) (by omega) (fun x hx => absurd hx (by simp))
 rw [mkE10, mkS10] at q1
 unfold SlotErr Slt.made at q1
 dsimp only [List.length_nil] at q1
 cases hv : fmB d k r with
 | false =>
  have e1 : nwR d k r = Lk.zero := by simp [nwR, hv]
  have e2 : nwE d k r = 1 := by simp [nwE, hv]
  rw [hv] at q2
  rw [e1, e2]
  generalize sumS 1 0 [] = S at *
  have ⟨H_bb0, H_g0, H_hw0, H_q1, H_q2⟩ := hid5 bb0 g0 hw0 q1 q2; clear bb0 g0 hw0 q1 q2
  go_enter Tryz.func9, Tryz.ntmps9
  go_wp2_with fail
  rw [H_hw0.out]
  go_wp2_with fail
  (with_reducible refine (H_q2.out _).mono ?_)
  rintro e w1 ⟨rfl, b1⟩
  have c1 : Below w0.heap.size w0 w1 := Below.trans belt (b1.mono omh)
  have s1 := c1.size
  have bb1 := H_bb0.out.trans (c1.mono H_bb0.out.size)
  have g1 := H_g0.out.below c1
  have ⟨H_b1, H_c1, H_bb1, H_g1⟩ := hid4 b1 c1 bb1 g1; clear b1 c1 bb1 g1
  obtain ⟨z0, z1, z2, z3, z4, z5, z6, z7, z8, z9, z10, z11⟩ := at12_of H_g1.out
  have lz := (H_g1.out 0 _ rfl).lt
  have b3 : Below w.heap.size w (putL w1 w.heap.size 0 [.int .i64 0, .int .i64 0, .int .i64 0, .int .i64 0, .int .i64 0, .slice none 0 0, .int .u64 0, .int .i64 0, .int .i64 0, .slice none 0 0, .int .u64 0, .bool false]) := putL_below (Nat.le_refl _) _ _ _ H_bb1.out
  simp only [putL, Nat.reduceAdd] at b3
  have H_b3 := Lib.hid b3; clear b3
  obtain ⟨f0, f1, f2, f3, f4, f5, f6, f7, f8, f9, f10, f11⟩ := free12_of H_g1.out
  go_wp2_with fail
  refine bodyPost_ret (v := .tuple #[.agg #[.int .i64 0, .int .i64 0, .int .i64 0, .int .i64 0, .int .i64 0, .slice none 0 0, .int .u64 0, .int .i64 0, .int .i64 0, .slice none 0 0, .int .u64 0, .bool false], .int .i64 1]) (by simp [results, Tryz.results9, go_sem, *]) rfl (lockErr_zero H_b3.out)
 | true =>
  have e1 : nwR d k r = ⟨d, k, r, Slt.made 1 0 [], Slt.zero, true⟩ := by simp [nwR, hv]
  have e2 : nwE d k r = 0 := by simp [nwE, hv]
  rw [hv] at q2
  rw [e1, e2]
  unfold LockErr Lk.cells Slt.made Slt.zero
  dsimp only [List.length_nil]
  generalize sumS 1 0 [] = S at *
  have ⟨H_bb0, H_g0, H_hw0, H_q1, H_q2⟩ := hid5 bb0 g0 hw0 q1 q2; clear bb0 g0 hw0 q1 q2
  go_enter Tryz.func9, Tryz.ntmps9
  go_wp2_with fail
  rw [H_hw0.out]
  go_wp2_with fail
  (with_reducible refine (H_q2.out _).mono ?_)
  rintro e w1 ⟨rfl, b1⟩
  have c1 : Below w0.heap.size w0 w1 := Below.trans belt (b1.mono omh)
  have s1 := c1.size
  have bb1 := H_bb0.out.trans (c1.mono H_bb0.out.size)
  have g1 := H_g0.out.below c1
  have ⟨H_b1, H_c1, H_bb1, H_g1⟩ := hid4 b1 c1 bb1 g1; clear b1 c1 bb1 g1
  go_wp2_with fail
  (with_reducible refine (H_q1.out _).mono ?_)
  rintro e w2 ⟨A1, p1, rfl, own1, b2⟩
  have c2 : Below w1.heap.size w1 w2 := Below.trans belt (b2.mono omh)
  have s2 := c2.size
  have bb2 := H_bb1.out.trans (c2.mono H_bb1.out.size)
  have g2 := H_g1.out.below c2
  have ⟨H_b2, H_c2, H_bb2, H_g2⟩ := hid4 b2 c2 bb2 g2; clear b2 c2 bb2 g2
  obtain ⟨z0, z1, z2, z3, z4, z5, z6, z7, z8, z9, z10, z11⟩ := at12_of H_g2.out
  have lz := (H_g2.out 0 _ rfl).lt
  have s2 := H_bb2.out.size
  have b3 : Below w.heap.size w ((putL w2 w.heap.size 0 [.int .i64 d, .int .i64 k, .int .i64 r, .int .i64 1, .int .i64 0, .slice A1 0 p1, .int .u64 S, .int .i64 0, .int .i64 0, .slice none 0 0, .int .u64 0, .bool true]).alloc (.cells #[.int .i64 1, .int .i64 0, .slice A1 0 p1, .int .u64 S] 25)) := (putL_below (Nat.le_refl _) _ _ _ H_bb2.out).alloc (by rw [putL_size]; exact s2) _
  simp only [putL, Nat.reduceAdd] at b3
  have H_b3 := Lib.hid b3; clear b3
  obtain ⟨f0, f1, f2, f3, f4, f5, f6, f7, f8, f9, f10, f11⟩ := free12_of H_g2.out
  go_wp2_with fail
  refine bodyPost_ret (v := .tuple #[.agg #[.int .i64 d, .int .i64 k, .int .i64 r, .int .i64 1, .int .i64 0, .slice A1 0 p1, .int .u64 S, .int .i64 0, .int .i64 0, .slice none 0 0, .int .u64 0, .bool true], .int .i64 0]) (by simp [results, Tryz.results9, go_sem, *]) rfl ⟨A1, p1, none, 0, rfl, prov_nil _ _ _ _ _, prov_nil _ _ _ _ _, H_b3.out⟩
theorem has_any (A : Option Addr) (cp n : Nat) (l : List Int) (hln : l.length = n) (x : Int) (w : World) (hl : IntsAt w A .i64 l) (hn : n ≤ 100000) :
  Calls Tryz.prog 40 #[.slice A n cp, .int .i64 x] w fun e w' => e = .returned (.bool (l.contains x)) ∧ Below w.heap.size w w' := by
 generalize hR : l.contains x = R at *
 have ⟨H_hl, H_hln, H_hR⟩ := hid3 hl hln hR; clear hl hln hR
 go_enter Tryz.func40, Tryz.ntmps40
 go_wp2_with fail
 go_loopw [5] (fun i wr => ∃ (k : Nat), k ≤ n ∧ i = .int .i64 k ∧ (l.drop k).contains x = R ∧ Below w.heap.size w wr) (fun i _ => n - (intOf i).toNat)
 case atStart => exact ⟨0, by omega, rfl, by rw [List.drop_zero]; exact H_hR.out, Below.refl _ _⟩
 case round =>
  obtain ⟨k, hk, rfl, hd, hb⟩ := hrel
  by_cases hlt : k < n
  ·have g1 : (k : Int) < (n : Int) := by omega
   have g0 : (0 : Int) ≤ (k : Int) := by omega
   have hk2 : k < l.length := by rw [H_hln.out]; exact hlt
   have hi := H_hl.out.below hb
   obtain ⟨b, off, rfl, hbl, hc⟩ := hi k hk2
   have hdr : l.drop k = l.getD k 0 :: l.drop (k + 1) := by
    rw [List.drop_eq_getElem_cons hk2, List.getD_eq_getElem?_getD, List.getElem?_eq_getElem hk2]; rfl
   rw [hdr, List.contains_cons] at hd
   generalize l.getD k 0 = v at *
   by_cases hv : v = x
   ·have i1 : (v == x) = true := by simp [hv]
    have hRt : R = true := by rw [← hd, hv]; simp
    have ⟨H_hd, H_hi, H_hdr, H_hb, H_hv⟩ := hid5 hd hi hdr hb hv; clear hd hi hdr hb hv
    go_wp2_with fail
    go_ret
    exact ⟨ret_bool (by first | rfl | rw [hRt]), H_hb.out⟩
   ·have i1 : (v == x) = false := by simp [hv]
    have i2 : (x == v) = false := by simp [Ne.symm hv]
    rw [i2, Bool.false_or] at hd
    have ⟨H_hd, H_hi, H_hdr, H_hb, H_hv⟩ := hid5 hd hi hdr hb hv; clear hd hi hdr hb hv
    go_wp2_with fail
    go_roundw
    case rel => exact ⟨k + 1, by omega, by go_num, H_hd.out, H_hb.out⟩
    case measure => simp [intOf]; omega
  ·have g1 : ¬ (k : Int) < (n : Int) := by omega
   have hRf : R = false := by rw [← hd, List.drop_eq_nil_of_le (by rw [H_hln.out]; omega)]; rfl
   have ⟨H_hd, H_hb⟩ := hid2 hd hb; clear hd hb
   go_wp2_with fail
   go_ret
   exact ⟨ret_bool (by first | rfl | rw [hRf]), H_hb.out⟩
def ptL (l : List Int) (C : Nat) (x : Int) (k : Nat) : List Int := if C < k then insL (l.take k) C x else l.take k
theorem take_one {l : List Int} {k : Nat} (h : k < l.length) : l.take (k + 1) = l.take k ++ [l.getD k 0] := by
 rw [List.take_add_one, List.getElem?_eq_getElem h, List.getD_eq_getElem?_getD, List.getElem?_eq_getElem h]; rfl
theorem ptL_lt {l : List Int} {C k : Nat} {x : Int} (h : k < l.length) (hk : k < C) : ptL l C x (k + 1) = ptL l C x k ++ [l.getD k 0] := by
 rw [ptL, ptL, if_neg (by omega), if_neg (by omega), take_one h]
theorem ptL_at {l : List Int} {k : Nat} {x : Int} (h : k < l.length) : ptL l k x (k + 1) = (ptL l k x k ++ [x]) ++ [l.getD k 0] := by
 rw [ptL, ptL, if_pos (by omega), if_neg (by omega), insL, take_one h, List.take_append_of_le_length (by rw [List.length_take]; omega), List.take_of_length_le (by rw [List.length_take]; omega), List.drop_append_of_le_length (by rw [List.length_take]; omega), List.drop_eq_nil_of_le (by rw [List.length_take]; omega)]
 simp
theorem ptL_gt {l : List Int} {C k : Nat} {x : Int} (h : k < l.length) (hk : C < k) : ptL l C x (k + 1) = ptL l C x k ++ [l.getD k 0] := by
 rw [ptL, ptL, if_pos (by omega), if_pos hk, insL, insL, take_one h, List.take_append_of_le_length (by rw [List.length_take]; omega), List.drop_append_of_le_length (by rw [List.length_take]; omega)]
 simp
theorem ptL_end {l : List Int} {C : Nat} {x : Int} (h : C < l.length) : ptL l C x l.length = insL l C x := by
 rw [ptL, if_pos h, List.take_length]
theorem ptL_last {l : List Int} {x : Int} : ptL l l.length x l.length ++ [x] = insL l l.length x := by
 rw [ptL, if_neg (by omega), List.take_length, insL, List.take_length, List.drop_length]
theorem ptL_len (l : List Int) (C : Nat) (x : Int) (k : Nat) : (ptL l C x k).length ≤ l.length + 1 := by
 unfold ptL; split
 ·rw [insL_len, List.length_take]; omega
 ·rw [List.length_take]; omega
set_option maxHeartbeats 8000000 in
theorem rput_any (A : Option Addr) (cp n : Nat) (l : List Int) (hln : l.length = n) (x : Int) (w : World) (hl : IntsAt w A .i64 l) (hn : n ≤ 100000) (C : Nat) (hC : C ≤ n) (hlo : ∀ i, i < n → (x < l.getD i 0 ↔ C ≤ i)) :
  Calls Tryz.prog 41 #[.slice A n cp, .int .i64 x] w (NewList (insL l C x) w) := by
 obtain ⟨i0, hi, hz0, hz1, hz2⟩ := info_parts infoI64
 have hple := ptL_len l C x
 have ⟨H_hl, H_hln, H_hlo, H_hple⟩ := hid4 hl hln hlo hple; clear hl hln hlo hple
 go_enter Tryz.func41, Tryz.ntmps41
 go_wp2_with fail
 go_loopw [5, 6, 7] (fun v d i wr => ∃ (k : Nat) (A2 : Option Addr) (c2 : Nat) (db : Bool), k ≤ n ∧ i = .int .i64 k ∧ d = .bool db ∧ db = decide (C < k) ∧ v = .slice A2 (ptL l C x k).length c2 ∧ OwnInts wr w.heap.size 3 .i64 A2 c2 (ptL l C x k) ∧ Below w.heap.size w wr) (fun _ _ i _ => n - (intOf i).toNat)
 case atStart => exact ⟨0, none, 0, false, by omega, rfl, rfl, by simp, by simp [ptL], by rw [ptL, if_neg (by omega), List.take_zero]; exact OwnInts.nil _ _ _ _, Below.refl _ _⟩
 case round =>
  obtain ⟨k, A2, c2, db, hk, rfl, rfl, hdb, rfl, ho, hbw⟩ := hrel
  have hpl := H_hple.out k
  rw [H_hln.out] at hpl
  by_cases hlt : k < n
  ·have g1 : (k : Int) < (n : Int) := by omega
   have g0 : (0 : Int) ≤ (k : Int) := by omega
   have hkl : k < l.length := by rw [H_hln.out]; exact hlt
   obtain ⟨b, off, rfl, hbl, hc⟩ := (H_hl.out.below hbw) k hkl
   have hsz := hbw.size
   have hcmp := H_hlo.out k hlt
   have pa := @ptL_lt l C k x hkl
   have pb := @ptL_at l k x hkl
   have pc := @ptL_gt l C k x hkl
   by_cases h1 : C < k
   ·have hR := pc h1
    have hdb1 : db = true := by rw [hdb]; exact decide_eq_true h1
    have hdb2 : decide (C < k + 1) = true := decide_eq_true (by omega)
    clear pa pb pc hcmp
    subst hdb1
    generalize ptL l C x k = out at *
    generalize l.getD k 0 = v at *
    generalize hm : out.length = m at *
    have ⟨H_ho, H_hbw, H_hR, H_hm, H_hdb, H_hdb2, H_hkl⟩ := hid7 ho hbw hR hm hdb hdb2 hkl; clear ho hbw hR hm hdb hdb2 hkl
    go_wp2_with (at_builtin; refine wp_app_at _ rfl (.tmp 28) (.tmp 33) _ rfl w.heap.size 3 i0 _ 8 Tryz.underlying22 hi hz0 hz1 hz2 rfl .i64 A2 c2 m out H_hm.out rfl (H_ho.out.alloc _) (some ⟨wr.heap.size, 0, none⟩) 1 1 [v] rfl rfl (ints_new1 wr .i64 v _ _ rfl) ?_ ?_ ?_ ?_)
    all_goals try omega
    all_goals try (simp; omega)
    intro A3 c3 w2 ho2 hg2 hB2
    have hb2 : Below w.heap.size w w2 := (H_ho.out.alloc _).grow (H_hbw.out.alloc hsz _) hg2
    have ⟨H_ho2, H_hg2, H_hB2, H_hb2⟩ := hid4 ho2 hg2 hB2 hb2; clear ho2 hg2 hB2 hb2
    go_wp2_with fail
    go_roundw
    case rel => exact ⟨k + 1, A3, c3, true, by omega, by go_num, rfl, H_hdb2.out.symm, by rw [H_hR.out, List.length_append, H_hm.out]; rfl, by rw [H_hR.out]; exact H_ho2.out, H_hb2.out⟩
    case measure => simp [intOf]; omega
   ·have hdb1 : db = false := by rw [hdb]; exact decide_eq_false h1
    subst hdb1
    by_cases h2 : k < C
    ·have hR := pa h2
     have hx : ¬ x < l.getD k 0 := fun h => by have := hcmp.1 h; omega
     have hdb2 : decide (C < k + 1) = false := decide_eq_false (by omega)
     clear pa pb pc hcmp
     generalize ptL l C x k = out at *
     generalize l.getD k 0 = v at *
     have hx2 : decide (x < v) = false := decide_eq_false hx
     generalize hm : out.length = m at *
     have ⟨H_ho, H_hbw, H_hR, H_hm, H_hdb, H_hdb2, H_hkl⟩ := hid7 ho hbw hR hm hdb hdb2 hkl; clear ho hbw hR hm hdb hdb2 hkl
     go_wp2_with (at_builtin; refine wp_app_at _ rfl (.tmp 28) (.tmp 33) _ rfl w.heap.size 3 i0 _ 8 Tryz.underlying22 hi hz0 hz1 hz2 rfl .i64 A2 c2 m out H_hm.out rfl (H_ho.out.alloc _) (some ⟨wr.heap.size, 0, none⟩) 1 1 [v] rfl rfl (ints_new1 wr .i64 v _ _ rfl) ?_ ?_ ?_ ?_)
     all_goals try omega
     all_goals try (simp; omega)
     intro A3 c3 w2 ho2 hg2 hB2
     have hb2 : Below w.heap.size w w2 := (H_ho.out.alloc _).grow (H_hbw.out.alloc hsz _) hg2
     have ⟨H_ho2, H_hg2, H_hB2, H_hb2⟩ := hid4 ho2 hg2 hB2 hb2; clear ho2 hg2 hB2 hb2
     go_wp2_with fail
     go_roundw
     case rel => exact ⟨k + 1, A3, c3, false, by omega, by go_num, rfl, H_hdb2.out.symm, by rw [H_hR.out, List.length_append, H_hm.out]; rfl, by rw [H_hR.out]; exact H_ho2.out, H_hb2.out⟩
     case measure => simp [intOf]; omega
    ·obtain rfl : C = k := by omega
     have hR := pb
     have hx : x < l.getD C 0 := hcmp.2 (Nat.le_refl _)
     have hdb2 : decide (C < C + 1) = true := decide_eq_true (by omega)
     clear pa pb pc hcmp
     have lv := H_hl.out
     generalize ptL l C x C = out at *
     generalize hgv : l.getD C 0 = v at *
     have hx2 : decide (x < v) = true := decide_eq_true hx
     generalize hm : out.length = m at *
     have ⟨H_ho, H_hbw, H_hR, H_hm, H_hdb, H_hdb2, H_hkl, H_hgv⟩ := hid8 ho hbw hR hm hdb hdb2 hkl hgv; clear ho hbw hR hm hdb hdb2 hkl hgv; have H_lv := Lib.hid lv; clear lv
     go_wp2_with (at_builtin; refine wp_app_at _ rfl (.tmp 24) (.tmp 26) _ rfl w.heap.size 3 i0 _ 8 Tryz.underlying22 hi hz0 hz1 hz2 rfl .i64 A2 c2 m out H_hm.out rfl (H_ho.out.alloc _) (some ⟨wr.heap.size, 0, none⟩) 1 1 [x] rfl rfl (ints_new1 wr .i64 x _ _ rfl) ?_ ?_ ?_ ?_)
     all_goals try omega
     all_goals try (simp; omega)
     intro A3 c3 w2 ho2 hg2 hB2
     have hb2 : Below w.heap.size w w2 := (H_ho.out.alloc _).grow (H_hbw.out.alloc hsz _) hg2
     have hs2 := hb2.size
     have hc2 : w2.cell? ⟨b, off + C, none⟩ = some (.int .i64 v) := by
      have := (H_lv.out.below hb2) C H_hkl.out
      obtain ⟨b', off', e', hbl', hc'⟩ := this
      injection e' with e'
      injection e' with e1' e2' _
      subst e1' e2'
      rw [hc', H_hgv.out]
     have hm2 : (out ++ [x]).length = m + 1 := by rw [List.length_append, H_hm.out]; rfl
     have ⟨H_ho2, H_hg2, H_hB2, H_hb2, H_hm2⟩ := hid5 ho2 hg2 hB2 hb2 hm2; clear ho2 hg2 hB2 hb2 hm2
     go_wp2_with (at_builtin; refine wp_app_at _ rfl (.tmp 28) (.tmp 33) _ rfl w.heap.size 3 i0 _ 8 Tryz.underlying22 hi hz0 hz1 hz2 rfl .i64 A3 c3 (m + 1) (out ++ [x]) H_hm2.out rfl (H_ho2.out.alloc _) (some ⟨w2.heap.size, 0, none⟩) 1 1 [v] rfl rfl (ints_new1 w2 .i64 v _ _ rfl) ?_ ?_ ?_ ?_)
     all_goals try omega
     all_goals try (simp; omega)
     intro A4 c4 w3 ho3 hg3 hB3
     have hb3 : Below w.heap.size w w3 := (H_ho2.out.alloc _).grow (H_hb2.out.alloc hs2 _) hg3
     have ⟨H_ho3, H_hg3, H_hB3, H_hb3⟩ := hid4 ho3 hg3 hB3 hb3; clear ho3 hg3 hB3 hb3
     go_wp2_with fail
     go_roundw
     case rel => exact ⟨C + 1, A4, c4, true, by omega, by go_num, rfl, H_hdb2.out.symm, by rw [H_hR.out, List.length_append, H_hm2.out]; rfl, by rw [H_hR.out, List.append_assoc]; exact H_ho3.out, H_hb3.out⟩
     case measure => simp [intOf]; omega
  ·have g1 : ¬ (k : Int) < (n : Int) := by omega
   obtain rfl : k = n := by omega
   have hsz := hbw.size
   by_cases h1 : C < k
   ·have hdb1 : db = true := by rw [hdb]; exact decide_eq_true h1
    subst hdb1
    have he : ptL l C x k = insL l C x := by rw [← H_hln.out]; exact ptL_end (by rw [H_hln.out]; exact h1)
    rw [he] at ho
    simp only [he]
    generalize insL l C x = out at *
    have ⟨H_ho, H_hbw, H_hdb, H_he⟩ := hid4 ho hbw hdb he; clear ho hbw hdb he
    go_wp2_with fail
    go_ret
    exact ⟨A2, c2, rfl, H_ho.out, H_hbw.out⟩
   ·obtain rfl : C = k := by omega
    have hdb1 : db = false := by rw [hdb]; exact decide_eq_false h1
    subst hdb1
    have he : ptL l C x C ++ [x] = insL l C x := by rw [← H_hln.out]; exact ptL_last
    generalize insL l C x = R at *
    generalize ptL l C x C = out at *
    generalize hm : out.length = m at *
    have ⟨H_ho, H_hbw, H_hdb, H_he, H_hm⟩ := hid5 ho hbw hdb he hm; clear ho hbw hdb he hm
    go_wp2_with (at_builtin; refine wp_app_at _ rfl (.tmp 37) (.tmp 39) _ rfl w.heap.size 3 i0 _ 8 Tryz.underlying22 hi hz0 hz1 hz2 rfl .i64 A2 c2 m out H_hm.out rfl (H_ho.out.alloc _) (some ⟨wr.heap.size, 0, none⟩) 1 1 [x] rfl rfl (ints_new1 wr .i64 x _ _ rfl) ?_ ?_ ?_ ?_)
    all_goals try omega
    all_goals try (simp; omega)
    intro A3 c3 w2 ho2 hg2 hB2
    have hb2 : Below w.heap.size w w2 := (H_ho.out.alloc _).grow (H_hbw.out.alloc hsz _) hg2
    have hlen : R.length = m + 1 := by rw [← H_he.out, List.length_append, H_hm.out]; rfl
    rw [H_he.out] at ho2
    have ⟨H_ho2, H_hg2, H_hB2, H_hb2, H_hlen⟩ := hid5 ho2 hg2 hB2 hb2 hlen; clear ho2 hg2 hB2 hb2 hlen
    go_wp2_with fail
    go_ret
    exact ⟨A3, c3, by rw [H_hlen.out]; rfl, H_ho2.out, H_hb2.out⟩
end Go.Proofs.YtoehobaigfmnpaaGreatDoor
