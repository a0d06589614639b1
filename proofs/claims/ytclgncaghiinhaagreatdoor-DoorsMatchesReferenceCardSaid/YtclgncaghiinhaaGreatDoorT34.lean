/- Doors in plain Lean: a lock with an exact clock opens for what May lets in. -/
import Derived.Test.YtclgncaghiinhaaGreatDoorT16
import Derived.Test.YtclgncaghiinhaaGreatDoorT17
import Derived.Test.YtclgncaghiinhaaGreatDoorT27
import Derived.Test.YtclgncaghiinhaaGreatDoorT32
set_option linter.unusedSimpArgs false
set_option linter.unusedVariables false
set_option maxRecDepth 100000
namespace Go.Proofs.YtclgncaghiinhaaGreatDoor
open Go.RowKit
/-- what bars a card -/
def barB (b c : Crd) : Bool := (decide (b.k = 3) && decide (b.l = c.i)) || ((decide (b.k = 1) && decide (c.k = 1)) && decide (c.n < b.n))
def freeB (c : Crd) (bs : List Crd) : Bool := bs.all fun b => !barB b c
theorem freeB_drop {c b : Crd} {l : List Crd} {k : Nat} (h : l[k]? = some b) : freeB c (l.drop k) = (!barB b c && freeB c (l.drop (k + 1))) := by
 obtain ⟨hk, rfl⟩ := List.getElem?_eq_some_iff.1 h
 rw [List.drop_eq_getElem_cons hk]; rfl
set_option maxHeartbeats 8000000 in
theorem dbars_any (b c : Crd) (BC : Nat) (w : World) (hb : Blk w BC c.cells.toArray) : Calls Tryz.prog 37 #[.agg b.cells.toArray, .pointer (some ⟨BC, 0, none⟩)] w fun e w' => e = .returned (.bool (barB b c)) ∧ Below w.heap.size w w' := by
 obtain ⟨w0, hw0⟩ : ∃ W, w.alloc (.cells b.cells.toArray 28) = W := ⟨_, rfl⟩
 have bb0 : Below w.heap.size w w0 := by rw [← hw0]; exact (Below.refl _ _).alloc (Nat.le_refl _) _
 have k0 : Blk w0 w.heap.size b.cells.toArray := by rw [← hw0]; exact blk_new rfl
 have j0 := hb.below bb0
 have e0 : barB b c = (((b.k == 3) && (b.l == c.i)) || (((b.k == 1) && (c.k == 1)) && decide (c.n < b.n))) := by
  simp only [barB, beq_dec]
 rw [e0]
 unfold Crd.cells at k0 j0 hw0 ⊢
 obtain ⟨x1, h1⟩ : ∃ x, (b.k == 3) = x := ⟨_, rfl⟩
 obtain ⟨x2, h2⟩ : ∃ x, (b.l == c.i) = x := ⟨_, rfl⟩
 obtain ⟨x3, h3⟩ : ∃ x, (b.k == 1) = x := ⟨_, rfl⟩
 obtain ⟨x4, h4⟩ : ∃ x, (c.k == 1) = x := ⟨_, rfl⟩
 obtain ⟨x5, h5⟩ : ∃ x, decide (c.n < b.n) = x := ⟨_, rfl⟩
 rw [h1, h2, h3, h4, h5]
 clear e0
 have ⟨Hhw0, Hbb0, Hk0, Hj0, Hhb⟩ := hid5 hw0 bb0 k0 j0 hb; clear hw0 bb0 k0 j0 hb
 cases x1 <;> cases x2 <;> cases x3 <;> cases x4
 all_goals
  go_enter Tryz.func37, Tryz.ntmps37
  go_upto_region 1 with (fail)
  rw [Hhw0.out]
  obtain ⟨y0, y1, y2, y3, y4, y5, y6, y7, y8⟩ := at9_of Hk0.out
  obtain ⟨z0, z1, z2, z3, z4, z5, z6, z7, z8⟩ := at9_of Hj0.out
  have ly := (Hk0.out 0 _ rfl).lt
  have lz := (Hj0.out 0 _ rfl).lt
  go_wp2_with fail
  go_ret
  exact ⟨by simp, Hbb0.out⟩
set_option maxHeartbeats 2000000 in
theorem dbindex_any (A : Option Addr) (cp n : Nat) (l : List Crd) (c : Crd) (BC : Nat) (hln : l.length = n) (hn : n ≤ 9223372036854775807) (w : World) (hl : Cards w A l) (hb : Blk w BC c.cells.toArray) :
  Calls Tryz.prog 74 #[.slice A n cp, .func (.func 37) #[] #[.pointer (some ⟨BC, 0, none⟩)]] w (IdxPost (freeB c l) w) := by
 generalize hR : freeB c l = R
 have h0 : R = freeB c (l.drop 0) := by rw [List.drop_zero]; exact hR.symm
 have ⟨Hhl, Hhln, HhR, Hh0, Hhb⟩ := hid5 hl hln hR h0 hb; clear hl hln hR h0 hb
 go_enter Tryz.func74, Tryz.ntmps74
 go_wp2_with fail
 go_loopw [8] (fun i wr => ∃ (k : Nat), k ≤ n ∧ i = .int .i64 k ∧ R = freeB c (l.drop k) ∧ Below w.heap.size w wr) (fun i _ => n - (intOf i).toNat)
 case atStart => exact ⟨0, by omega, rfl, Hh0.out, Below.refl _ _⟩
 case round =>
  obtain ⟨k, hk, rfl, hRk, hb⟩ := hrel
  by_cases hlt : k < n
  ·obtain ⟨d, hd⟩ : ∃ c, l[k]? = some c := ⟨_, List.getElem?_eq_getElem (by rw [Hhln.out]; exact hlt)⟩
   obtain ⟨b, off, rfl, hbl, hf, c0, c1, c2, c3, c4, c5, c6, c7, c8⟩ := (Hhl.out.below hb).at hd
   rw [freeB_drop hd] at hRk
   have q := dbars_any d c BC wr (Hhb.out.below hb)
   unfold Crd.cells at q
   generalize barB d c = X at *
   have g1 : (k : Int) < (n : Int) := by omega
   have g0 : (0 : Int) ≤ (k : Int) := by omega
   have hs := hb.size
   have ⟨Hq, HhRk, Hhf, Hhd, Hhb⟩ := hid5 q hRk hf hd hb; clear q hRk hf hd hb
   go_wp2_with fail
   refine Hq.out.mono ?_
   rintro e w2 ⟨rfl, b2⟩
   have bb := Hhb.out.trans (b2.mono hs)
   clear c0 c1 c2 c3 c4 c5 c6 c7 c8
   have ⟨Hb2, Hbb⟩ := hid2 b2 bb; clear b2 bb
   cases X with
   | false =>
    go_wp2_with fail
    go_roundw
    case rel => exact ⟨k + 1, by omega, by go_num, by rw [HhRk.out]; rfl, Hbb.out⟩
    case measure => simp [intOf]; omega
   | true =>
    go_wp2_with fail
    go_ret
    exact ⟨k, rfl, by rw [HhRk.out]; simp, by omega, by omega, Hbb.out⟩
  ·have : l.drop k = [] := List.drop_eq_nil_of_le (by rw [Hhln.out]; omega)
   rw [this] at hRk
   have ⟨HhRk, Hhb, Hthis⟩ := hid3 hRk hb this; clear hRk hb this
   go_wp2_with fail
   go_ret
   exact ⟨-1, rfl, by rw [HhRk.out]; rfl, by omega, by omega, Hhb.out⟩
theorem dbcontains_any (A : Option Addr) (cp n : Nat) (l : List Crd) (c : Crd) (BC : Nat) (hln : l.length = n) (hn : n ≤ 9223372036854775807) (w : World) (hl : Cards w A l) (hb : Blk w BC c.cells.toArray) :
  Calls Tryz.prog 38 #[.slice A n cp, .func (.func 37) #[] #[.pointer (some ⟨BC, 0, none⟩)]] w fun e w' => e = .returned (.bool (!freeB c l)) ∧ Below w.heap.size w w' := by
 have q := dbindex_any A cp n l c BC hln hn w hl hb
 generalize freeB c l = R at *
 unfold IdxPost at q
 have ⟨Hq, Hhl, Hhln, Hhb⟩ := hid4 q hl hln hb; clear q hl hln hb
 go_enter Tryz.func38, Tryz.ntmps38
 go_wp2_with fail
 refine Hq.out.mono ?_
 rintro e w2 ⟨i, rfl, hi, i0, i1, b2⟩
 have Hb2 := Lib.hid b2; clear b2
 cases R with
 | true =>
  have hi2 : ¬ (0 ≤ i) := by simpa using hi
  go_wp2_with fail
  go_ret
  exact ⟨ret_bool (by simp), Hb2.out⟩
 | false =>
  have hi2 : 0 ≤ i := by simpa using hi
  go_wp2_with fail
  go_ret
  exact ⟨ret_bool (by simp), Hb2.out⟩
/-- whether May answers, and what -/
def mayV (bs : List Crd) (c : Crd) (key t : Int) : Bool := cvB c && memZ key && cdsB bs && timeB t
def mayW (bs : List Crd) (c : Crd) (key t : Int) : Bool := !decide (c.k = 3) && freeB c bs && !decide (t < c.f) && !decide (c.u ≤ t) && chkB c key
def mayR (bs : List Crd) (c : Crd) (key t : Int) : Bool := mayV bs c key t && mayW bs c key t
def mayE (bs : List Crd) (c : Crd) (key t : Int) : Int := if mayV bs c key t = true then 0 else 1
set_option maxHeartbeats 16000000 in
theorem dmay_any (c : Crd) (key : Int) (A : Option Addr) (cp n : Nat) (bs : List Crd) (t : Int) (w : World) (hc : CFit c) (hln : bs.length = n) (hn : n ≤ 9223372036854775807) (hl : Cards w A bs) (ht : Tab w) :
  Calls Tryz.prog 13 #[.agg c.cells.toArray, .int .i64 key, .slice A n cp, .int .i64 t] w fun e w' => e = .returned (.tuple #[.bool (mayR bs c key t), .int .i64 (mayE bs c key t)]) ∧ Below w.heap.size w w' := by
 obtain ⟨w0, hw0⟩ : ∃ W, w.alloc (.cells c.cells.toArray 28) = W := ⟨_, rfl⟩
 have bb0 : Below w.heap.size w w0 := by rw [← hw0]; exact (Below.refl _ _).alloc (Nat.le_refl _) _
 have k0 : Blk w0 w.heap.size c.cells.toArray := by rw [← hw0]; exact blk_new rfl
 have q1 := fun W => cvalid_any c hc W
 have q2 := fun W => member_any key W
 have q3 := fun W (h : Below w.heap.size w W) => dcards_any A cp n bs hln hn W (hl.below h)
 have q4 := fun W => disTime_any t W
 have q5 := fun W (h : Below w.heap.size w W) (hb : Blk W w.heap.size c.cells.toArray) => dbcontains_any A cp n bs c w.heap.size hln hn W (hl.below h) hb
 have q6 := fun W (h : Below w.heap.size w W) => ccheck_any c key hc W (ht.below h)
 have e3 : mayV bs c key t = (cvB c && memZ key && cdsB bs && timeB t) := rfl
 have e4 : mayW bs c key t = (!(c.k == 3) && freeB c bs && !decide (t < c.f) && !decide (c.u ≤ t) && chkB c key) := by rw [mayW, beq_dec]
 unfold mayR mayE
 rw [e3, e4]
 generalize cvB c = V1 at *
 generalize memZ key = V2 at *
 generalize cdsB bs = V3 at *
 generalize timeB t = V4 at *
 generalize freeB c bs = V5 at *
 generalize chkB c key = V6 at *
 generalize chkE c key = E6 at *
 obtain ⟨x1, h1⟩ : ∃ x, (c.k == 3) = x := ⟨_, rfl⟩
 obtain ⟨x2, h2⟩ : ∃ x, decide (t < c.f) = x := ⟨_, rfl⟩
 obtain ⟨x3, h3⟩ : ∃ x, decide (c.u ≤ t) = x := ⟨_, rfl⟩
 rw [h1, h2, h3]
 clear e3 e4
 unfold Crd.cells at k0 hw0 q1 q5 q6 ⊢
 have ⟨Hhw0, Hbb0, Hk0, Hq1, Hq2, Hq3, Hq4, Hq5⟩ := hid8 hw0 bb0 k0 q1 q2 q3 q4 q5; clear hw0 bb0 k0 q1 q2 q3 q4 q5; have ⟨Hq6, Hhc, Hhln, Hhl, Hht⟩ := hid5 q6 hc hln hl ht; clear q6 hc hln hl ht
 cases V1 with
 | false =>
  go_enter Tryz.func13, Tryz.ntmps13
  go_upto_region 1 with (fail)
  rw [Hhw0.out]
  obtain ⟨y0, y1, y2, y3, y4, y5, y6, y7, y8⟩ := at9_of Hk0.out
  have ly := (Hk0.out 0 _ rfl).lt
  go_wp2_with fail
  (with_reducible refine (Hq1.out _).mono ?_)
  rintro e w1 ⟨rfl, b1⟩
  have c1 : Below w0.heap.size w0 w1 := Below.trans belt (b1.mono omh)
  have s1 := c1.size
  have bb1 := Hbb0.out.trans (c1.mono Hbb0.out.size)
  have ⟨Hb1, Hc1, Hbb1⟩ := hid3 b1 c1 bb1; clear b1 c1 bb1
  go_wp2_with fail
  go_ret2
  exact ⟨rfl, Hbb1.out⟩
 | true =>
 cases V2 with
 | false =>
  go_enter Tryz.func13, Tryz.ntmps13
  go_upto_region 1 with (fail)
  rw [Hhw0.out]
  obtain ⟨y0, y1, y2, y3, y4, y5, y6, y7, y8⟩ := at9_of Hk0.out
  have ly := (Hk0.out 0 _ rfl).lt
  go_wp2_with fail
  (with_reducible refine (Hq1.out _).mono ?_)
  rintro e w1 ⟨rfl, b1⟩
  have c1 : Below w0.heap.size w0 w1 := Below.trans belt (b1.mono omh)
  have s1 := c1.size
  have bb1 := Hbb0.out.trans (c1.mono Hbb0.out.size)
  have ⟨Hb1, Hc1, Hbb1⟩ := hid3 b1 c1 bb1; clear b1 c1 bb1
  go_wp2_with fail
  (with_reducible refine (Hq2.out _).mono ?_)
  rintro e w2 ⟨rfl, b2⟩
  have c2 : Below w1.heap.size w1 w2 := Below.trans belt (b2.mono omh)
  have s2 := c2.size
  have bb2 := Hbb1.out.trans (c2.mono Hbb1.out.size)
  have ⟨Hb2, Hc2, Hbb2⟩ := hid3 b2 c2 bb2; clear b2 c2 bb2
  go_wp2_with fail
  go_ret2
  exact ⟨rfl, Hbb2.out⟩
 | true =>
 cases V3 with
 | false =>
  go_enter Tryz.func13, Tryz.ntmps13
  go_upto_region 1 with (fail)
  rw [Hhw0.out]
  obtain ⟨y0, y1, y2, y3, y4, y5, y6, y7, y8⟩ := at9_of Hk0.out
  have ly := (Hk0.out 0 _ rfl).lt
  go_wp2_with fail
  (with_reducible refine (Hq1.out _).mono ?_)
  rintro e w1 ⟨rfl, b1⟩
  have c1 : Below w0.heap.size w0 w1 := Below.trans belt (b1.mono omh)
  have s1 := c1.size
  have bb1 := Hbb0.out.trans (c1.mono Hbb0.out.size)
  have ⟨Hb1, Hc1, Hbb1⟩ := hid3 b1 c1 bb1; clear b1 c1 bb1
  go_wp2_with fail
  (with_reducible refine (Hq2.out _).mono ?_)
  rintro e w2 ⟨rfl, b2⟩
  have c2 : Below w1.heap.size w1 w2 := Below.trans belt (b2.mono omh)
  have s2 := c2.size
  have bb2 := Hbb1.out.trans (c2.mono Hbb1.out.size)
  have ⟨Hb2, Hc2, Hbb2⟩ := hid3 b2 c2 bb2; clear b2 c2 bb2
  go_wp2_with fail
  (with_reducible refine (Hq3.out _ ?_).mono ?_)
  ·exact Hbb2.out.trans ((show Below w2.heap.size w2 _ from belt).mono Hbb2.out.size)
  rintro e w3 ⟨rfl, b3⟩
  have c3 : Below w2.heap.size w2 w3 := Below.trans belt (b3.mono omh)
  have s3 := c3.size
  have bb3 := Hbb2.out.trans (c3.mono Hbb2.out.size)
  have ⟨Hb3, Hc3, Hbb3⟩ := hid3 b3 c3 bb3; clear b3 c3 bb3
  go_wp2_with fail
  go_ret2
  exact ⟨rfl, Hbb3.out⟩
 | true =>
 cases V4 with
 | false =>
  go_enter Tryz.func13, Tryz.ntmps13
  go_upto_region 1 with (fail)
  rw [Hhw0.out]
  obtain ⟨y0, y1, y2, y3, y4, y5, y6, y7, y8⟩ := at9_of Hk0.out
  have ly := (Hk0.out 0 _ rfl).lt
  go_wp2_with fail
  (with_reducible refine (Hq1.out _).mono ?_)
  rintro e w1 ⟨rfl, b1⟩
  have c1 : Below w0.heap.size w0 w1 := Below.trans belt (b1.mono omh)
  have s1 := c1.size
  have bb1 := Hbb0.out.trans (c1.mono Hbb0.out.size)
  have ⟨Hb1, Hc1, Hbb1⟩ := hid3 b1 c1 bb1; clear b1 c1 bb1
  go_wp2_with fail
  (with_reducible refine (Hq2.out _).mono ?_)
  rintro e w2 ⟨rfl, b2⟩
  have c2 : Below w1.heap.size w1 w2 := Below.trans belt (b2.mono omh)
  have s2 := c2.size
  have bb2 := Hbb1.out.trans (c2.mono Hbb1.out.size)
  have ⟨Hb2, Hc2, Hbb2⟩ := hid3 b2 c2 bb2; clear b2 c2 bb2
  go_wp2_with fail
  (with_reducible refine (Hq3.out _ ?_).mono ?_)
  ·exact Hbb2.out.trans ((show Below w2.heap.size w2 _ from belt).mono Hbb2.out.size)
  rintro e w3 ⟨rfl, b3⟩
  have c3 : Below w2.heap.size w2 w3 := Below.trans belt (b3.mono omh)
  have s3 := c3.size
  have bb3 := Hbb2.out.trans (c3.mono Hbb2.out.size)
  have ⟨Hb3, Hc3, Hbb3⟩ := hid3 b3 c3 bb3; clear b3 c3 bb3
  go_wp2_with fail
  (with_reducible refine (Hq4.out _).mono ?_)
  rintro e w4 ⟨rfl, b4⟩
  have c4 : Below w3.heap.size w3 w4 := Below.trans belt (b4.mono omh)
  have s4 := c4.size
  have bb4 := Hbb3.out.trans (c4.mono Hbb3.out.size)
  have ⟨Hb4, Hc4, Hbb4⟩ := hid3 b4 c4 bb4; clear b4 c4 bb4
  go_wp2_with fail
  go_ret2
  exact ⟨rfl, Hbb4.out⟩
 | true =>
  go_enter Tryz.func13, Tryz.ntmps13
  go_upto_region 1 with (fail)
  rw [Hhw0.out]
  obtain ⟨y0, y1, y2, y3, y4, y5, y6, y7, y8⟩ := at9_of Hk0.out
  have ly := (Hk0.out 0 _ rfl).lt
  go_wp2_with fail
  (with_reducible refine (Hq1.out _).mono ?_)
  rintro e w1 ⟨rfl, b1⟩
  have c1 : Below w0.heap.size w0 w1 := Below.trans belt (b1.mono omh)
  have s1 := c1.size
  have bb1 := Hbb0.out.trans (c1.mono Hbb0.out.size)
  have k1 := Hk0.out.below c1
  have ⟨Hb1, Hc1, Hbb1, Hk1⟩ := hid4 b1 c1 bb1 k1; clear b1 c1 bb1 k1
  go_wp2_with fail
  (with_reducible refine (Hq2.out _).mono ?_)
  rintro e w2 ⟨rfl, b2⟩
  have c2 : Below w1.heap.size w1 w2 := Below.trans belt (b2.mono omh)
  have s2 := c2.size
  have bb2 := Hbb1.out.trans (c2.mono Hbb1.out.size)
  have k2 := Hk1.out.below c2
  have ⟨Hb2, Hc2, Hbb2, Hk2⟩ := hid4 b2 c2 bb2 k2; clear b2 c2 bb2 k2
  go_wp2_with fail
  (with_reducible refine (Hq3.out _ ?_).mono ?_)
  ·exact Hbb2.out.trans ((show Below w2.heap.size w2 _ from belt).mono Hbb2.out.size)
  rintro e w3 ⟨rfl, b3⟩
  have c3 : Below w2.heap.size w2 w3 := Below.trans belt (b3.mono omh)
  have s3 := c3.size
  have bb3 := Hbb2.out.trans (c3.mono Hbb2.out.size)
  have k3 := Hk2.out.below c3
  have ⟨Hb3, Hc3, Hbb3, Hk3⟩ := hid4 b3 c3 bb3 k3; clear b3 c3 bb3 k3
  go_wp2_with fail
  (with_reducible refine (Hq4.out _).mono ?_)
  rintro e w4 ⟨rfl, b4⟩
  have c4 : Below w3.heap.size w3 w4 := Below.trans belt (b4.mono omh)
  have s4 := c4.size
  have bb4 := Hbb3.out.trans (c4.mono Hbb3.out.size)
  have k4 := Hk3.out.below c4
  have ⟨Hb4, Hc4, Hbb4, Hk4⟩ := hid4 b4 c4 bb4 k4; clear b4 c4 bb4 k4
  clear ly y0 y1 y2 y3 y4 y5 y6 y7 y8
  obtain ⟨y0, y1, y2, y3, y4, y5, y6, y7, y8⟩ := at9_of Hk4.out
  have ly := (Hk4.out 0 _ rfl).lt
  cases x1 with
  | true =>
   go_wp2_with fail
   go_ret2
   exact ⟨rfl, Hbb4.out⟩
  | false =>
  cases V5 with
  | false =>
   go_wp2_with fail
   (with_reducible refine (Hq5.out _ ?_ ?_).mono ?_)
   ·exact Hbb4.out.trans ((show Below w4.heap.size w4 _ from belt).mono Hbb4.out.size)
   ·exact Hk4.out.below (show Below w4.heap.size w4 _ from belt)
   rintro e w5 ⟨rfl, b5⟩
   have c5 : Below w4.heap.size w4 w5 := Below.trans belt (b5.mono omh)
   have s5 := c5.size
   have bb5 := Hbb4.out.trans (c5.mono Hbb4.out.size)
   have ⟨Hb5, Hc5, Hbb5⟩ := hid3 b5 c5 bb5; clear b5 c5 bb5
   go_wp2_with fail
   go_ret2
   exact ⟨rfl, Hbb5.out⟩
  | true =>
   go_wp2_with fail
   (with_reducible refine (Hq5.out _ ?_ ?_).mono ?_)
   ·exact Hbb4.out.trans ((show Below w4.heap.size w4 _ from belt).mono Hbb4.out.size)
   ·exact Hk4.out.below (show Below w4.heap.size w4 _ from belt)
   rintro e w5 ⟨rfl, b5⟩
   have c5 : Below w4.heap.size w4 w5 := Below.trans belt (b5.mono omh)
   have s5 := c5.size
   have bb5 := Hbb4.out.trans (c5.mono Hbb4.out.size)
   have k5 := Hk4.out.below c5
   have ⟨Hb5, Hc5, Hbb5, Hk5⟩ := hid4 b5 c5 bb5 k5; clear b5 c5 bb5 k5
   clear ly y0 y1 y2 y3 y4 y5 y6 y7 y8
   obtain ⟨y0, y1, y2, y3, y4, y5, y6, y7, y8⟩ := at9_of Hk5.out
   have ly := (Hk5.out 0 _ rfl).lt
   cases x2 with
   | true =>
    go_wp2_with fail
    go_ret2
    exact ⟨rfl, Hbb5.out⟩
   | false =>
   cases x3 with
   | true =>
    go_wp2_with fail
    go_ret2
    exact ⟨rfl, Hbb5.out⟩
   | false =>
    go_wp2_with fail
    (with_reducible refine (Hq6.out _ ?_).mono ?_)
    ·exact Hbb5.out.trans ((show Below w5.heap.size w5 _ from belt).mono Hbb5.out.size)
    rintro e w6 ⟨rfl, b6⟩
    have c6 : Below w5.heap.size w5 w6 := Below.trans belt (b6.mono omh)
    have s6 := c6.size
    have bb6 := Hbb5.out.trans (c6.mono Hbb5.out.size)
    have ⟨Hb6, Hc6, Hbb6⟩ := hid3 b6 c6 bb6; clear b6 c6 bb6
    go_wp2_with fail
    go_ret2
    exact ⟨by simp, Hbb6.out⟩
theorem ris_ins : ∀ (l : List Int) (d x : Int), risB d l = true → d < x → x ≤ 1000000 → ¬ x ∈ l → risB d (insL l (l.countP (· < x)) x) = true
  | [], d, x, _, h1, h2, _ => by
    simp only [List.countP_nil, insL, List.take_nil, List.drop_nil, List.nil_append, risB, Bool.and_true]
    exact wB_iff.2 (by omega)
  | y :: r, d, x, h, h1, h2, hx => by
    rw [risB, Bool.and_eq_true, wB_iff] at h
    have hx2 : ¬ x ∈ r := fun e => hx (List.mem_cons_of_mem _ e)
    have hne : x ≠ y := fun e => hx (by rw [e]; exact List.mem_cons_self)
    rw [List.countP_cons]
    by_cases hy : y < x
    · rw [if_pos (decide_eq_true hy)]
      have ih := ris_ins r y x h.2 hy h2 hx2
      have e : insL (y :: r) (r.countP (· < x) + 1) x = y :: insL r (r.countP (· < x)) x := by simp [insL]
      rw [e, risB, ih, Bool.and_true]
      exact wB_iff.2 h.1
    · have h0 : r.countP (· < x) = 0 := by
        rw [List.countP_eq_zero]
        intro z hz
        have := (ris_sorted y r h.2).2 z hz
        simp only [decide_eq_true_eq]; omega
      rw [if_neg (by simpa using hy), h0]
      have e : insL (y :: r) 0 x = x :: y :: r := by simp [insL]
      rw [show 0 + 0 = 0 from rfl, e, risB, risB, h.2, Bool.and_true, Bool.and_eq_true]
      exact ⟨wB_iff.2 (by omega), wB_iff.2 (by omega)⟩
theorem keep_fld {L : Lk} (h : lvB L = true) : (0 ≤ (keepS L).s ∧ (keepS L).s ≤ 1000000000) ∧ (0 ≤ (keepS L).c ∧ (keepS L).c ≤ 1000000000) ∧ (keepS L).l.length ≤ 500 ∧ risB 0 (keepS L).l = true := by
 have h1 := keep_ok (lv_best h)
 simp only [Slt.ok, vldB, Bool.and_eq_true] at h1
 have h2 := fldB_iff.1 h1.1
 exact ⟨by omega, by omega, by omega, h2.2⟩
/-- where the kept slot has room, a card can be written -/
theorem write_may {L : Lk} {c : Crd} {a : Int} (hv : lvB L = true) (hc : cvB c = true) (hs : (keepS L).s < 1000000000) (hl : (keepS L).l.length < 500) (ha : 0 ≤ a ∧ a ≤ 3) : shWE L c a = 0 := by
 obtain ⟨k1, k2, k3, k4⟩ := keep_fld hv
 obtain ⟨_, hk⟩ := cvB_iff.1 hc
 have hC : 0 ≤ aftC L c ∧ aftC L c ≤ 1000000000 := by
  unfold aftC; split
  ·rename_i e; rcases hk with hk | hk | hk <;> omega
  ·exact k2
 have hL : (aftL L c).length ≤ 500 ∧ risB 0 (aftL L c) = true := by
  refine ⟨by have := aftL_len L c; omega, ?_⟩
  unfold aftL; split
  ·rename_i e
   unfold revL; split
   ·exact k4
   ·rename_i hm
    exact ris_ins _ _ _ k4 (by rcases hk with hk | hk | hk <;> omega) (by rcases hk with hk | hk | hk <;> omega) (by simpa using hm)
  ·exact k4
 have hF : fldB 0 (aftC L c) (aftL L c) = true := fldB_iff.2 ⟨⟨by omega, by omega, by omega⟩, hL.2⟩
 unfold shWE; split
 ·unfold wrE
  rw [if_neg (by omega), hF, top_keep (lv_best hv), if_neg (by simp), wB_iff.2 ha, if_neg (by simp), if_neg (by omega)]
 ·rfl
/-- May, and what counts at a door, by the cards before -/
def rvkD (bs : List Crd) (i : Int) : Bool := bs.any fun b => decide (b.k = 3) && decide (b.l = i)
def newD (bs : List Crd) (n : Int) : Bool := bs.any fun b => decide (b.k = 1) && decide (n < b.n)
def inD (c : Crd) (t : Int) : Bool := decide (c.f ≤ t) && decide (t < c.u)
def mayD (bs : List Crd) (c : Crd) (key t : Int) : Bool := !decide (c.k = 3) && !rvkD bs c.i && !(decide (c.k = 1) && newD bs c.n) && inD c t && chkB c key
def cntD (bs : List Crd) (c : Crd) (door key t : Int) : Bool := (decide (c.d = door) || decide (c.d = 0)) && !rvkD bs c.i && !(decide (c.k = 1) && newD bs c.n) && inD c t && chkB c key
/-- a lock that has been shown the cards bs -/
structure Bef (L : Lk) (bs : List Crd) (door key : Int) : Prop where
 v : lvB L = true
 d : L.d = door
 k : L.k = key
 r : L.r = 0
 c1 : ∀ b ∈ bs, b.k = 1 → b.n ≤ (keepS L).c
 c2 : (keepS L).c = 0 ∨ ∃ b ∈ bs, b.k = 1 ∧ b.n = (keepS L).c
 l : ∀ x, x ∈ (keepS L).l ↔ ∃ b ∈ bs, b.k = 3 ∧ b.l = x
 s : (keepS L).s ≤ 1 + bs.length
 len : (keepS L).l.length ≤ bs.length
theorem Bef.rev {L : Lk} {bs : List Crd} {door key : Int} (h : Bef L bs door key) (i : Int) : rvkD bs i = true ↔ i ∈ (keepS L).l := by
 rw [h.l, rvkD, List.any_eq_true]
 simp only [Bool.and_eq_true, decide_eq_true_eq]
theorem Bef.newer {L : Lk} {bs : List Crd} {door key : Int} (h : Bef L bs door key) {n : Int} (hn : 0 ≤ n) : newD bs n = true ↔ n < (keepS L).c := by
 rw [newD, List.any_eq_true]
 simp only [Bool.and_eq_true, decide_eq_true_eq]
 constructor
 ·rintro ⟨b, hb, hk, hlt⟩; have := h.c1 b hb hk; omega
 ·intro hlt
  rcases h.c2 with e | ⟨b, hb, hk, e⟩
  ·omega
  ·exact ⟨b, hb, hk, by omega⟩
theorem exact_may {t f u : Int} (ht : timeB t = true) (hp : 0 ≤ f ∧ f ≤ u ∧ u ≤ 1000000000) : (askB t 0 f u = true ∧ mayB t 0 f u = true) ↔ f ≤ t ∧ t < u := by
 have h := timeB_iff.1 ht
 have ha : askB t 0 f u = true := askB_iff.2 ⟨⟨h, by omega, by omega⟩, hp⟩
 rw [mayB, ha, Bool.true_and, decide_eq_true_eq]
 simp only [true_and, loT, hiT]
 omega
theorem Bef.acc {L : Lk} {bs : List Crd} {door key : Int} (h : Bef L bs door key) {c : Crd} {t a : Int} (hc : cvB c = true) (ht : timeB t = true) (ha : 0 ≤ a ∧ a ≤ 3) (hb : bs.length ≤ 400) :
  shE { L with up := true } c t a = 0 ↔ cntD bs c door key t = true := by
 have hv : lvB { L with up := true } = true := h.v
 obtain ⟨hbase, hk⟩ := cvB_iff.1 hc
 have hper : 0 ≤ c.f ∧ c.f ≤ c.u ∧ c.u ≤ 1000000000 := by obtain ⟨h1, h2, h3, h4, h5, h6⟩ := hbase; omega
 have hw : shWE { L with up := true } c a = 0 := write_may hv hc (by have := h.s; rw [keep_up]; omega) (by have := h.len; rw [keep_up]; omega) ha
 have e : shE { L with up := true } c t a = 0 ↔ chkB c L.k = true ∧ accB { L with up := true } c t = true := by
  rw [shE, if_pos ⟨hv, hc, ht, by omega, by omega⟩, if_pos rfl, hw]
  simp only
  split
  ·split
   ·rename_i h1 h2; exact ⟨fun _ => ⟨h1, h2⟩, fun _ => rfl⟩
   ·rename_i h1 h2; exact ⟨fun h => absurd h (by omega), fun h => absurd h.2 h2⟩
  ·rename_i h1; exact ⟨fun h => absurd h (by omega), fun h => absurd h.1 h1⟩
 have ku : keepS { L with up := true } = keepS L := rfl
 rw [e, acc_iff, ku, h.k]
 simp only [h.d, h.r]
 rw [exact_may ht hper, cntD, Bool.and_eq_true, Bool.and_eq_true, Bool.and_eq_true, Bool.and_eq_true, Bool.or_eq_true, decide_eq_true_eq, decide_eq_true_eq, Bool.not_eq_true', inD, Bool.and_eq_true, decide_eq_true_eq, decide_eq_true_eq, Bool.not_eq_true']
 have hr := h.rev c.i
 rw [← Bool.not_eq_true (rvkD bs c.i), hr, ← Bool.not_eq_true (decide (c.k = 1) && newD bs c.n), Bool.and_eq_true, decide_eq_true_eq]
 have hn : c.k = 1 → (newD bs c.n = true ↔ c.n < (keepS L).c) := fun h1 => h.newer (by rcases hk with hk | hk | hk <;> omega)
 constructor
 ·rintro ⟨x1, x2, x3, x4, x5⟩
  refine ⟨⟨⟨⟨x3, x4⟩, ?_⟩, x2⟩, x1⟩
  rintro ⟨y1, y2⟩
  have := (hn y1).1 y2
  have := x5 y1
  omega
 ·rintro ⟨⟨⟨⟨x3, x4⟩, x5⟩, x2⟩, x1⟩
  refine ⟨x1, x2, x3, x4, fun y1 => ?_⟩
  rcases (show (keepS L).c ≤ c.n ∨ c.n < (keepS L).c by omega) with z | z
  ·exact z
  ·exact absurd ⟨y1, (hn y1).2 z⟩ x5
/-- one card more -/
theorem Bef.step {L : Lk} {bs : List Crd} {door key : Int} (h : Bef L bs door key) {c : Crd} {t a : Int} (hc : cvB c = true) (ht : timeB t = true) (ha : 0 ≤ a ∧ a ≤ 3) (hb : bs.length ≤ 400) :
    (stp L c t a).2 = (mayD bs c key t && (decide (c.d = door) || decide (c.d = 0)) && decide (a = 3)) ∧ Bef (stp L c t a).1 (if 2 ≤ a ∧ cntD bs c door key t = true then bs ++ [c] else bs) door key := by
  have hacc := h.acc hc ht ha hb
  have hm : (mayD bs c key t && (decide (c.d = door) || decide (c.d = 0))) = (cntD bs c door key t && !decide (c.k = 3)) := by
    rw [mayD, cntD]
    generalize (decide (c.d = door) || decide (c.d = 0)) = x1
    generalize decide (c.k = 3) = x2
    generalize rvkD bs c.i = x3
    generalize (decide (c.k = 1) && newD bs c.n) = x4
    generalize inD c t = x5
    generalize chkB c key = x6
    cases x1 <;> cases x2 <;> cases x3 <;> cases x4 <;> cases x5 <;> cases x6 <;> rfl
  rw [hm]
  by_cases h0 : shE { L with up := true } c t a = 0
  · have hcn := hacc.1 h0
    have x := left_of h0
    have xs := left_s h0
    rw [hcn]
    unfold stp
    rw [if_pos h0]
    refine ⟨?_, ?_⟩
    · simp only
      rw [shO, if_pos h0, Bool.true_and, Bool.and_comm]
    · simp only
      by_cases h2 : 2 ≤ a
      · rw [if_pos (⟨h2, by first | rfl | trivial⟩ : _ ∧ _)]
        obtain ⟨n1, n2⟩ := x.new h2
        have eC : aftC { L with up := true } c = aftC L c := rfl
        have eL : aftL { L with up := true } c = aftL L c := rfl
        rw [eC] at n1
        rw [eL] at n2
        refine ⟨x.v, by rw [x.d]; exact h.d, by rw [x.k]; exact h.k, by rw [x.r]; exact h.r, fun b hb hk => ?_, ?_, fun y => ?_, ?_, ?_⟩
        · rw [n1]
          rcases List.mem_append.1 hb with hb | hb
          · have := h.c1 b hb hk; have := aft_ge L c; omega
          · have : b = c := by simpa using hb
            subst this
            rw [aftC, if_pos hk]; omega
        · rw [n1, aftC]
          split
          · rename_i hk
            rcases (show (keepS L).c ≤ c.n ∨ c.n < (keepS L).c by omega) with z | z
            · right; exact ⟨c, by simp, hk, by omega⟩
            · rcases h.c2 with e | ⟨b, hb, hk2, e⟩
              · left; omega
              · right; exact ⟨b, List.mem_append_left _ hb, hk2, by omega⟩
          · rcases h.c2 with e | ⟨b, hb, hk2, e⟩
            · left; exact e
            · right; exact ⟨b, List.mem_append_left _ hb, hk2, e⟩
        · rw [n2, aftL]
          split
          · rename_i hk
            rw [mem_revL, h.l]
            constructor
            · rintro (rfl | ⟨b, hb, hk2, e⟩)
              · exact ⟨c, by simp, hk, rfl⟩
              · exact ⟨b, List.mem_append_left _ hb, hk2, e⟩
            · rintro ⟨b, hb, hk2, e⟩
              rcases List.mem_append.1 hb with hb | hb
              · exact .inr ⟨b, hb, hk2, e⟩
              · have : b = c := by simpa using hb
                subst this; exact .inl e.symm
          · rename_i hk
            rw [h.l]
            constructor
            · rintro ⟨b, hb, hk2, e⟩; exact ⟨b, List.mem_append_left _ hb, hk2, e⟩
            · rintro ⟨b, hb, hk2, e⟩
              rcases List.mem_append.1 hb with hb | hb
              · exact ⟨b, hb, hk2, e⟩
              · have : b = c := by simpa using hb
                subst this; exact absurd hk2 hk
        · rw [xs, List.length_append]
          have := h.s
          rw [keep_up]
          split
          · simp only [List.length_cons, List.length_nil]; omega
          · simp only [List.length_cons, List.length_nil]; omega
        · rw [n2, List.length_append]
          have := aftL_len L c
          have := h.len
          simp only [List.length_cons, List.length_nil]; omega
      · rw [if_neg (fun e => h2 e.1)]
        have o := x.old (by omega)
        rw [keep_up] at o
        exact ⟨x.v, by rw [x.d]; exact h.d, by rw [x.k]; exact h.k, by rw [x.r]; exact h.r, by rw [o]; exact h.c1, by rw [o]; exact h.c2, by rw [o]; exact h.l, by rw [o]; exact h.s, by rw [o]; exact h.len⟩
  · have hcn : cntD bs c door key t = false := by
      rw [Bool.eq_false_iff]; exact fun e => h0 (hacc.2 e)
    rw [hcn, Bool.false_and, if_neg (by simp)]
    unfold stp
    rw [if_neg h0]
    exact ⟨rfl, ⟨h.v, h.d, h.k, h.r, h.c1, h.c2, h.l, h.s, h.len⟩⟩
end Go.Proofs.YtclgncaghiinhaaGreatDoor
