/- Package doors: May. -/
import Derived.Test.YtclgncaghiinhaaGreatDoorU14
import Derived.Test.YtclgncaghiinhaaGreatDoorU15
import Derived.Test.YtclgncaghiinhaaGreatDoorU29
import Derived.Test.YtclgncaghiinhaaGreatDoorU36
set_option linter.unusedSimpArgs false
set_option linter.unusedVariables false
set_option maxRecDepth 100000
namespace Go.Proofs.YtclgncaghiinhaaGreatDoor
open Go.RowKit
/-- what bars a card -/
def barB (b c : Crd) : Bool := (decide (b.k = 3) && decide (b.l = c.i)) || ((decide (b.k = 1) && decide (c.k = 1)) && decide (c.n < b.n))
def freeB (c : Crd) (bs : List Crd) : Bool := bs.all fun b => !barB b c
theorem freeB_drop {c b : Crd} {l : List Crd} {k : Nat} (h : l[k]? = some b) : freeB c (l.drop k) = (!barB b c && freeB c (l.drop (k + 1))) := by
 obtain ⟨hk, rfl⟩ := List.getElem?_eq_some_iff.1 h
 rw [List.drop_eq_getElem_cons hk]; rfl
set_option maxHeartbeats 8000000 in
theorem dbars_any (b c : Crd) (BC : Nat) (w : World) (hb : Blk w BC c.cells.toArray) : Calls Tryz.prog 37 #[.agg b.cells.toArray, .pointer (some ⟨BC, 0, none⟩)] w fun e w' => e = .returned (.bool (barB b c)) ∧ Below w.heap.size w w' := by
 obtain ⟨w0, hw0⟩ : ∃ W, w.alloc (.cells b.cells.toArray 28) = W := ⟨_, rfl⟩
 have bb0 : Below w.heap.size w w0 := by rw [← hw0]; exact (Below.refl _ _).alloc (Nat.le_refl _) _
 have k0 : Blk w0 w.heap.size b.cells.toArray := by rw [← hw0]; exact blk_new rfl
 have j0 := hb.below bb0
 have e0 : barB b c = (((b.k == 3) && (b.l == c.i)) || (((b.k == 1) && (c.k == 1)) && decide (c.n < b.n))) := by
  simp only [barB, beq_dec]
 rw [e0]
 unfold Crd.cells at k0 j0 hw0 ⊢
 obtain ⟨x1, h1⟩ : ∃ x, (b.k == 3) = x := ⟨_, rfl⟩
 obtain ⟨x2, h2⟩ : ∃ x, (b.l == c.i) = x := ⟨_, rfl⟩
 obtain ⟨x3, h3⟩ : ∃ x, (b.k == 1) = x := ⟨_, rfl⟩
 obtain ⟨x4, h4⟩ : ∃ x, (c.k == 1) = x := ⟨_, rfl⟩
 obtain ⟨x5, h5⟩ : ∃ x, decide (c.n < b.n) = x := ⟨_, rfl⟩
 rw [h1, h2, h3, h4, h5]
 clear e0
 have ⟨Hhw0, Hbb0, Hk0, Hj0, Hhb⟩ := hid5 hw0 bb0 k0 j0 hb; clear hw0 bb0 k0 j0 hb
 cases x1 <;> cases x2 <;> cases x3 <;> cases x4
 all_goals
  go_enter Tryz.func37, Tryz.ntmps37
  go_upto_region 1 with (fail)
  rw [Hhw0.out]
  obtain ⟨y0, y1, y2, y3, y4, y5, y6, y7, y8⟩ := at9_of Hk0.out
  obtain ⟨z0, z1, z2, z3, z4, z5, z6, z7, z8⟩ := at9_of Hj0.out
  have ly := (Hk0.out 0 _ rfl).lt
  have lz := (Hj0.out 0 _ rfl).lt
  go_wp2_with fail
  go_ret
  exact ⟨by simp, Hbb0.out⟩
set_option maxHeartbeats 2000000 in
theorem dbindex_any (A : Option Addr) (cp n : Nat) (l : List Crd) (c : Crd) (BC : Nat) (hln : l.length = n) (hn : n ≤ 9223372036854775807) (w : World) (hl : Cards w A l) (hb : Blk w BC c.cells.toArray) :
  Calls Tryz.prog 74 #[.slice A n cp, .func (.func 37) #[] #[.pointer (some ⟨BC, 0, none⟩)]] w (IdxPost (freeB c l) w) := by
 generalize hR : freeB c l = R
 have h0 : R = freeB c (l.drop 0) := by rw [List.drop_zero]; exact hR.symm
 have ⟨Hhl, Hhln, HhR, Hh0, Hhb⟩ := hid5 hl hln hR h0 hb; clear hl hln hR h0 hb
 go_enter Tryz.func74, Tryz.ntmps74
 go_wp2_with fail
 go_loopw [8] (fun i wr => ∃ (k : Nat), k ≤ n ∧ i = .int .i64 k ∧ R = freeB c (l.drop k) ∧ Below w.heap.size w wr) (fun i _ => n - (intOf i).toNat)
 case atStart => exact ⟨0, by omega, rfl, Hh0.out, Below.refl _ _⟩
 case round =>
  obtain ⟨k, hk, rfl, hRk, hb⟩ := hrel
  by_cases hlt : k < n
  ·obtain ⟨d, hd⟩ : ∃ c, l[k]? = some c := ⟨_, List.getElem?_eq_getElem (by rw [Hhln.out]; exact hlt)⟩
   obtain ⟨b, off, rfl, hbl, hf, c0, c1, c2, c3, c4, c5, c6, c7, c8⟩ := (Hhl.out.below hb).at hd
   rw [freeB_drop hd] at hRk
   have q := dbars_any d c BC wr (Hhb.out.below hb)
   unfold Crd.cells at q
   generalize barB d c = X at *
   have g1 : (k : Int) < (n : Int) := by omega
   have g0 : (0 : Int) ≤ (k : Int) := by omega
   have hs := hb.size
   have ⟨Hq, HhRk, Hhf, Hhd, Hhb⟩ := hid5 q hRk hf hd hb; clear q hRk hf hd hb
   go_wp2_with fail
   refine Hq.out.mono ?_
   rintro e w2 ⟨rfl, b2⟩
   have bb := Hhb.out.trans (b2.mono hs)
   clear c0 c1 c2 c3 c4 c5 c6 c7 c8
   have ⟨Hb2, Hbb⟩ := hid2 b2 bb; clear b2 bb
   cases X with
   | false =>
    go_wp2_with fail
    go_roundw
    case rel => exact ⟨k + 1, by omega, by go_num, by rw [HhRk.out]; rfl, Hbb.out⟩
    case measure => simp [intOf]; omega
   | true =>
    go_wp2_with fail
    go_ret
    exact ⟨k, rfl, by rw [HhRk.out]; simp, by omega, by omega, Hbb.out⟩
  ·have : l.drop k = [] := List.drop_eq_nil_of_le (by rw [Hhln.out]; omega)
   rw [this] at hRk
   have ⟨HhRk, Hhb, Hthis⟩ := hid3 hRk hb this; clear hRk hb this
   go_wp2_with fail
   go_ret
   exact ⟨-1, rfl, by rw [HhRk.out]; rfl, by omega, by omega, Hhb.out⟩
theorem dbcontains_any (A : Option Addr) (cp n : Nat) (l : List Crd) (c : Crd) (BC : Nat) (hln : l.length = n) (hn : n ≤ 9223372036854775807) (w : World) (hl : Cards w A l) (hb : Blk w BC c.cells.toArray) :
  Calls Tryz.prog 38 #[.slice A n cp, .func (.func 37) #[] #[.pointer (some ⟨BC, 0, none⟩)]] w fun e w' => e = .returned (.bool (!freeB c l)) ∧ Below w.heap.size w w' := by
 have q := dbindex_any A cp n l c BC hln hn w hl hb
 generalize freeB c l = R at *
 unfold IdxPost at q
 have ⟨Hq, Hhl, Hhln, Hhb⟩ := hid4 q hl hln hb; clear q hl hln hb
 go_enter Tryz.func38, Tryz.ntmps38
 go_wp2_with fail
 refine Hq.out.mono ?_
 rintro e w2 ⟨i, rfl, hi, i0, i1, b2⟩
 have Hb2 := Lib.hid b2; clear b2
 cases R with
 | true =>
  have hi2 : ¬ (0 ≤ i) := by simpa using hi
  go_wp2_with fail
  go_ret
  exact ⟨ret_bool (by simp), Hb2.out⟩
 | false =>
  have hi2 : 0 ≤ i := by simpa using hi
  go_wp2_with fail
  go_ret
  exact ⟨ret_bool (by simp), Hb2.out⟩
/-- whether May answers, and what -/
def mayV (bs : List Crd) (c : Crd) (key t : Int) : Bool := cvB c && memZ key && cdsB bs && timeB t
def mayW (bs : List Crd) (c : Crd) (key t : Int) : Bool := !decide (c.k = 3) && freeB c bs && !decide (t < c.f) && !decide (c.u ≤ t) && chkB c key
def mayR (bs : List Crd) (c : Crd) (key t : Int) : Bool := mayV bs c key t && mayW bs c key t
def mayE (bs : List Crd) (c : Crd) (key t : Int) : Int := if mayV bs c key t = true then 0 else 1
set_option maxHeartbeats 16000000 in
theorem dmay_any (c : Crd) (key : Int) (A : Option Addr) (cp n : Nat) (bs : List Crd) (t : Int) (w : World) (hc : CFit c) (hln : bs.length = n) (hn : n ≤ 9223372036854775807) (hl : Cards w A bs) (ht : Tab w) :
  Calls Tryz.prog 13 #[.agg c.cells.toArray, .int .i64 key, .slice A n cp, .int .i64 t] w fun e w' => e = .returned (.tuple #[.bool (mayR bs c key t), .int .i64 (mayE bs c key t)]) ∧ Below w.heap.size w w' := by
 obtain ⟨w0, hw0⟩ : ∃ W, w.alloc (.cells c.cells.toArray 28) = W := ⟨_, rfl⟩
 have bb0 : Below w.heap.size w w0 := by rw [← hw0]; exact (Below.refl _ _).alloc (Nat.le_refl _) _
 have k0 : Blk w0 w.heap.size c.cells.toArray := by rw [← hw0]; exact blk_new rfl
 have q1 := fun W => cvalid_any c hc W
 have q2 := fun W => member_any key W
 have q3 := fun W (h : Below w.heap.size w W) => dcards_any A cp n bs hln hn W (hl.below h)
 have q4 := fun W => disTime_any t W
 have q5 := fun W (h : Below w.heap.size w W) (hb : Blk W w.heap.size c.cells.toArray) => dbcontains_any A cp n bs c w.heap.size hln hn W (hl.below h) hb
 have q6 := fun W (h : Below w.heap.size w W) => ccheck_any c key hc W (ht.below h)
 have e3 : mayV bs c key t = (cvB c && memZ key && cdsB bs && timeB t) := rfl
 have e4 : mayW bs c key t = (!(c.k == 3) && freeB c bs && !decide (t < c.f) && !decide (c.u ≤ t) && chkB c key) := by rw [mayW, beq_dec]
 unfold mayR mayE
 rw [e3, e4]
 generalize cvB c = V1 at *
 generalize memZ key = V2 at *
 generalize cdsB bs = V3 at *
 generalize timeB t = V4 at *
 generalize freeB c bs = V5 at *
 generalize chkB c key = V6 at *
 generalize chkE c key = E6 at *
 obtain ⟨x1, h1⟩ : ∃ x, (c.k == 3) = x := ⟨_, rfl⟩
 obtain ⟨x2, h2⟩ : ∃ x, decide (t < c.f) = x := ⟨_, rfl⟩
 obtain ⟨x3, h3⟩ : ∃ x, decide (c.u ≤ t) = x := ⟨_, rfl⟩
 rw [h1, h2, h3]
 clear e3 e4
 unfold Crd.cells at k0 hw0 q1 q5 q6 ⊢
 have ⟨Hhw0, Hbb0, Hk0, Hq1, Hq2, Hq3, Hq4, Hq5⟩ := hid8 hw0 bb0 k0 q1 q2 q3 q4 q5; clear hw0 bb0 k0 q1 q2 q3 q4 q5; have ⟨Hq6, Hhc, Hhln, Hhl, Hht⟩ := hid5 q6 hc hln hl ht; clear q6 hc hln hl ht
 cases V1 with
 | false =>
  go_enter Tryz.func13, Tryz.ntmps13
  go_upto_region 1 with (fail)
  rw [Hhw0.out]
  obtain ⟨y0, y1, y2, y3, y4, y5, y6, y7, y8⟩ := at9_of Hk0.out
  have ly := (Hk0.out 0 _ rfl).lt
  go_wp2_with fail
  (with_reducible refine (Hq1.out _).mono ?_)
  rintro e w1 ⟨rfl, b1⟩
  have c1 : Below w0.heap.size w0 w1 := Below.trans belt (b1.mono omh)
  have s1 := c1.size
  have bb1 := Hbb0.out.trans (c1.mono Hbb0.out.size)
  have ⟨Hb1, Hc1, Hbb1⟩ := hid3 b1 c1 bb1; clear b1 c1 bb1
  go_wp2_with fail
  go_ret2
  exact ⟨rfl, Hbb1.out⟩
 | true =>
 cases V2 with
 | false =>
  go_enter Tryz.func13, Tryz.ntmps13
  go_upto_region 1 with (fail)
  rw [Hhw0.out]
  obtain ⟨y0, y1, y2, y3, y4, y5, y6, y7, y8⟩ := at9_of Hk0.out
  have ly := (Hk0.out 0 _ rfl).lt
  go_wp2_with fail
  (with_reducible refine (Hq1.out _).mono ?_)
  rintro e w1 ⟨rfl, b1⟩
  have c1 : Below w0.heap.size w0 w1 := Below.trans belt (b1.mono omh)
  have s1 := c1.size
  have bb1 := Hbb0.out.trans (c1.mono Hbb0.out.size)
  have ⟨Hb1, Hc1, Hbb1⟩ := hid3 b1 c1 bb1; clear b1 c1 bb1
  go_wp2_with fail
  (with_reducible refine (Hq2.out _).mono ?_)
  rintro e w2 ⟨rfl, b2⟩
  have c2 : Below w1.heap.size w1 w2 := Below.trans belt (b2.mono omh)
  have s2 := c2.size
  have bb2 := Hbb1.out.trans (c2.mono Hbb1.out.size)
  have ⟨Hb2, Hc2, Hbb2⟩ := hid3 b2 c2 bb2; clear b2 c2 bb2
  go_wp2_with fail
  go_ret2
  exact ⟨rfl, Hbb2.out⟩
 | true =>
 cases V3 with
 | false =>
  go_enter Tryz.func13, Tryz.ntmps13
  go_upto_region 1 with (fail)
  rw [Hhw0.out]
  obtain ⟨y0, y1, y2, y3, y4, y5, y6, y7, y8⟩ := at9_of Hk0.out
  have ly := (Hk0.out 0 _ rfl).lt
  go_wp2_with fail
  (with_reducible refine (Hq1.out _).mono ?_)
  rintro e w1 ⟨rfl, b1⟩
  have c1 : Below w0.heap.size w0 w1 := Below.trans belt (b1.mono omh)
  have s1 := c1.size
  have bb1 := Hbb0.out.trans (c1.mono Hbb0.out.size)
  have ⟨Hb1, Hc1, Hbb1⟩ := hid3 b1 c1 bb1; clear b1 c1 bb1
  go_wp2_with fail
  (with_reducible refine (Hq2.out _).mono ?_)
  rintro e w2 ⟨rfl, b2⟩
  have c2 : Below w1.heap.size w1 w2 := Below.trans belt (b2.mono omh)
  have s2 := c2.size
  have bb2 := Hbb1.out.trans (c2.mono Hbb1.out.size)
  have ⟨Hb2, Hc2, Hbb2⟩ := hid3 b2 c2 bb2; clear b2 c2 bb2
  go_wp2_with fail
  (with_reducible refine (Hq3.out _ ?_).mono ?_)
  ·exact Hbb2.out.trans ((show Below w2.heap.size w2 _ from belt).mono Hbb2.out.size)
  rintro e w3 ⟨rfl, b3⟩
  have c3 : Below w2.heap.size w2 w3 := Below.trans belt (b3.mono omh)
  have s3 := c3.size
  have bb3 := Hbb2.out.trans (c3.mono Hbb2.out.size)
  have ⟨Hb3, Hc3, Hbb3⟩ := hid3 b3 c3 bb3; clear b3 c3 bb3
  go_wp2_with fail
  go_ret2
  exact ⟨rfl, Hbb3.out⟩
 | true =>
 cases V4 with
 | false =>
  go_enter Tryz.func13, Tryz.ntmps13
  go_upto_region 1 with (fail)
  rw [Hhw0.out]
  obtain ⟨y0, y1, y2, y3, y4, y5, y6, y7, y8⟩ := at9_of Hk0.out
  have ly := (Hk0.out 0 _ rfl).lt
  go_wp2_with fail
  (with_reducible refine (Hq1.out _).mono ?_)
  rintro e w1 ⟨rfl, b1⟩
  have c1 : Below w0.heap.size w0 w1 := Below.trans belt (b1.mono omh)
  have s1 := c1.size
  have bb1 := Hbb0.out.trans (c1.mono Hbb0.out.size)
  have ⟨Hb1, Hc1, Hbb1⟩ := hid3 b1 c1 bb1; clear b1 c1 bb1
  go_wp2_with fail
  (with_reducible refine (Hq2.out _).mono ?_)
  rintro e w2 ⟨rfl, b2⟩
  have c2 : Below w1.heap.size w1 w2 := Below.trans belt (b2.mono omh)
  have s2 := c2.size
  have bb2 := Hbb1.out.trans (c2.mono Hbb1.out.size)
  have ⟨Hb2, Hc2, Hbb2⟩ := hid3 b2 c2 bb2; clear b2 c2 bb2
  go_wp2_with fail
  (with_reducible refine (Hq3.out _ ?_).mono ?_)
  ·exact Hbb2.out.trans ((show Below w2.heap.size w2 _ from belt).mono Hbb2.out.size)
  rintro e w3 ⟨rfl, b3⟩
  have c3 : Below w2.heap.size w2 w3 := Below.trans belt (b3.mono omh)
  have s3 := c3.size
  have bb3 := Hbb2.out.trans (c3.mono Hbb2.out.size)
  have ⟨Hb3, Hc3, Hbb3⟩ := hid3 b3 c3 bb3; clear b3 c3 bb3
  go_wp2_with fail
  (with_reducible refine (Hq4.out _).mono ?_)
  rintro e w4 ⟨rfl, b4⟩
  have c4 : Below w3.heap.size w3 w4 := Below.trans belt (b4.mono omh)
  have s4 := c4.size
  have bb4 := Hbb3.out.trans (c4.mono Hbb3.out.size)
  have ⟨Hb4, Hc4, Hbb4⟩ := hid3 b4 c4 bb4; clear b4 c4 bb4
  go_wp2_with fail
  go_ret2
  exact ⟨rfl, Hbb4.out⟩
 | true =>
  go_enter Tryz.func13, Tryz.ntmps13
  go_upto_region 1 with (fail)
  rw [Hhw0.out]
  obtain ⟨y0, y1, y2, y3, y4, y5, y6, y7, y8⟩ := at9_of Hk0.out
  have ly := (Hk0.out 0 _ rfl).lt
  go_wp2_with fail
  (with_reducible refine (Hq1.out _).mono ?_)
  rintro e w1 ⟨rfl, b1⟩
  have c1 : Below w0.heap.size w0 w1 := Below.trans belt (b1.mono omh)
  have s1 := c1.size
  have bb1 := Hbb0.out.trans (c1.mono Hbb0.out.size)
  have k1 := Hk0.out.below c1
  have ⟨Hb1, Hc1, Hbb1, Hk1⟩ := hid4 b1 c1 bb1 k1; clear b1 c1 bb1 k1
  go_wp2_with fail
  (with_reducible refine (Hq2.out _).mono ?_)
  rintro e w2 ⟨rfl, b2⟩
  have c2 : Below w1.heap.size w1 w2 := Below.trans belt (b2.mono omh)
  have s2 := c2.size
  have bb2 := Hbb1.out.trans (c2.mono Hbb1.out.size)
  have k2 := Hk1.out.below c2
  have ⟨Hb2, Hc2, Hbb2, Hk2⟩ := hid4 b2 c2 bb2 k2; clear b2 c2 bb2 k2
  go_wp2_with fail
  (with_reducible refine (Hq3.out _ ?_).mono ?_)
  ·exact Hbb2.out.trans ((show Below w2.heap.size w2 _ from belt).mono Hbb2.out.size)
  rintro e w3 ⟨rfl, b3⟩
  have c3 : Below w2.heap.size w2 w3 := Below.trans belt (b3.mono omh)
  have s3 := c3.size
  have bb3 := Hbb2.out.trans (c3.mono Hbb2.out.size)
  have k3 := Hk2.out.below c3
  have ⟨Hb3, Hc3, Hbb3, Hk3⟩ := hid4 b3 c3 bb3 k3; clear b3 c3 bb3 k3
  go_wp2_with fail
  (with_reducible refine (Hq4.out _).mono ?_)
  rintro e w4 ⟨rfl, b4⟩
  have c4 : Below w3.heap.size w3 w4 := Below.trans belt (b4.mono omh)
  have s4 := c4.size
  have bb4 := Hbb3.out.trans (c4.mono Hbb3.out.size)
  have k4 := Hk3.out.below c4
  have ⟨Hb4, Hc4, Hbb4, Hk4⟩ := hid4 b4 c4 bb4 k4; clear b4 c4 bb4 k4
  clear ly y0 y1 y2 y3 y4 y5 y6 y7 y8
  obtain ⟨y0, y1, y2, y3, y4, y5, y6, y7, y8⟩ := at9_of Hk4.out
  have ly := (Hk4.out 0 _ rfl).lt
  cases x1 with
  | true =>
   go_wp2_with fail
   go_ret2
   exact ⟨rfl, Hbb4.out⟩
  | false =>
  cases V5 with
  | false =>
   go_wp2_with fail
   (with_reducible refine (Hq5.out _ ?_ ?_).mono ?_)
   ·exact Hbb4.out.trans ((show Below w4.heap.size w4 _ from belt).mono Hbb4.out.size)
   ·exact Hk4.out.below (show Below w4.heap.size w4 _ from belt)
   rintro e w5 ⟨rfl, b5⟩
   have c5 : Below w4.heap.size w4 w5 := Below.trans belt (b5.mono omh)
   have s5 := c5.size
   have bb5 := Hbb4.out.trans (c5.mono Hbb4.out.size)
   have ⟨Hb5, Hc5, Hbb5⟩ := hid3 b5 c5 bb5; clear b5 c5 bb5
   go_wp2_with fail
   go_ret2
   exact ⟨rfl, Hbb5.out⟩
  | true =>
   go_wp2_with fail
   (with_reducible refine (Hq5.out _ ?_ ?_).mono ?_)
   ·exact Hbb4.out.trans ((show Below w4.heap.size w4 _ from belt).mono Hbb4.out.size)
   ·exact Hk4.out.below (show Below w4.heap.size w4 _ from belt)
   rintro e w5 ⟨rfl, b5⟩
   have c5 : Below w4.heap.size w4 w5 := Below.trans belt (b5.mono omh)
   have s5 := c5.size
   have bb5 := Hbb4.out.trans (c5.mono Hbb4.out.size)
   have k5 := Hk4.out.below c5
   have ⟨Hb5, Hc5, Hbb5, Hk5⟩ := hid4 b5 c5 bb5 k5; clear b5 c5 bb5 k5
   clear ly y0 y1 y2 y3 y4 y5 y6 y7 y8
   obtain ⟨y0, y1, y2, y3, y4, y5, y6, y7, y8⟩ := at9_of Hk5.out
   have ly := (Hk5.out 0 _ rfl).lt
   cases x2 with
   | true =>
    go_wp2_with fail
    go_ret2
    exact ⟨rfl, Hbb5.out⟩
   | false =>
   cases x3 with
   | true =>
    go_wp2_with fail
    go_ret2
    exact ⟨rfl, Hbb5.out⟩
   | false =>
    go_wp2_with fail
    (with_reducible refine (Hq6.out _ ?_).mono ?_)
    ·exact Hbb5.out.trans ((show Below w5.heap.size w5 _ from belt).mono Hbb5.out.size)
    rintro e w6 ⟨rfl, b6⟩
    have c6 : Below w5.heap.size w5 w6 := Below.trans belt (b6.mono omh)
    have s6 := c6.size
    have bb6 := Hbb5.out.trans (c6.mono Hbb5.out.size)
    have ⟨Hb6, Hc6, Hbb6⟩ := hid3 b6 c6 bb6; clear b6 c6 bb6
    go_wp2_with fail
    go_ret2
    exact ⟨by simp, Hbb6.out⟩
end Go.Proofs.YtclgncaghiinhaaGreatDoor
