/- Package doors: showings. -/
import Derived.Test.YtclgncaghiinhaaGreatDoorU31
import Derived.Test.YtclgncaghiinhaaGreatDoorU42
import Derived.Test.YtclgncaghiinhaaGreatDoorU43
set_option linter.unusedSimpArgs false
set_option linter.unusedVariables false
set_option maxRecDepth 100000
namespace Go.Proofs.YtclgncaghiinhaaGreatDoor
open Go.RowKit
theorem grx_mk {w W : World} {g : Nat} (h : w.grownBy W (some g)) : (∀ b o, b < w.heap.size → b ≠ g → W.cell? ⟨b, o, none⟩ = w.cell? ⟨b, o, none⟩) ∧ w.grownBy W (some g) :=
 ⟨fun b o hb hn => World.cell?_of_block (a := ⟨b, o, none⟩) (h.block b hb (fun e => hn (Option.some.inj e))), h⟩
set_option maxHeartbeats 8000000 in
theorem dsh_any (g i : Nat) (L : Lk) (A : Option Addr) (p : Nat) (B : Option Addr) (r : Nat) (Ps : List LkP) (BC BX : Nat) (X : Option Addr) (m cp : Nat) (cs : List Crd) (s : Sh4) (j : Nat) (c : Crd) (u w : World)
  (hH : House g w Ps) (hi : Ps[i]? = some ⟨L, A, p, B, r⟩) (hv : lvB L = true) (hu : Below u.heap.size u w) (hg : u.heap.size ≤ g) (ht : Tab u)
  (hX : w.cell? ⟨BC, 0, none⟩ = some (.slice X m cp)) (zX : BC < w.heap.size) (nX : BC ≠ g) (hcs : Cards u X cs) (hm : cs.length = m) (hm9 : m ≤ 1000000) (hb : Blk w BX s.cells.toArray) (nb : BX ≠ g) (hj : s.b = (j : Int)) (hc : cs[j]? = some c) :
  Calls Tryz.prog 59 #[.pointer (some ⟨g, i * 12, none⟩), .pointer (some ⟨BC, 0, none⟩), .pointer (some ⟨BX, 0, none⟩)] w fun e w' => e = .returned (.bool (stp L c s.c s.d).2) ∧ ∃ P : LkP, P.L = (stp L c s.c s.d).1 ∧ House g w' (Ps.set i P) ∧ w.grownBy w' (some g) ∧ ∀ x, x < w.heap.size → LkP.Far ⟨L, A, p, B, r⟩ x → P.Far x := by
 have hjm : j < m := by rw [← hm]; exact (List.getElem?_eq_some_iff.1 hc).1
 obtain ⟨b, off, rfl, hbl, hf, c0, c1, c2, c3, c4, c5, c6, c7, c8⟩ := (hcs.below hu).at hc
 have hbg : b ≠ g := by
  obtain ⟨b', off', e, hbl', _⟩ := hcs.at hc
  injection e with e
  injection e with e1 _
  omega
 have q1 := fun W (h : Below w.heap.size w W) => dshow_any g i L A p B r Ps c s.c s.d u W (hH.below h) hi hv hf (hu.trans (h.mono hu.size)) hg ht
 obtain ⟨o, ho⟩ : ∃ o, i * 12 = o := ⟨_, rfl⟩
 rw [ho] at q1 ⊢
 obtain ⟨sa, sb, sc, sd⟩ := s
 dsimp only at hj q1 ⊢
 subst hj
 generalize (stp L c sc sd).2 = OZ at *
 generalize (stp L c sc sd).1 = LZ at *
 have hb2 : Blk w BX #[.int .i64 sa, .int .i64 (j : Int), .int .i64 sc, .int .i64 sd] := hb
 have b0 := hb2 0 _ rfl
 have b1 := (hb2 1 _ rfl).at
 have b2 := (hb2 2 _ rfl).at
 have b3 := (hb2 3 _ rfl).at
 have zb := b0.lt
 have i0 : (0 : Int) ≤ (j : Int) := by omega
 have i1 : (j : Int) < (m : Int) := by omega
 unfold Crd.cells at q1
 clear b0 hb2
 have ⟨Hq1, HhH, Hhi, Hhv, Hhu, Hht, Hhcs, Hhm⟩ := hid8 q1 hH hi hv hu ht hcs hm; clear q1 hH hi hv hu ht hcs hm; have ⟨Hhb, Hhc, Hhf, Hho⟩ := hid4 hb hc hf ho; clear hb hc hf ho
 go_enter Tryz.func59, Tryz.ntmps59
 go_upto_region 1 with (fail)
 refine wp_region_held_drew (S := (fun W => (∀ b o, b < w.heap.size → b ≠ g → W.cell? ⟨b, o, none⟩ = w.cell? ⟨b, o, none⟩) ∧ w.grownBy W (some g))) (by kernel_rfl) ?_ (fun hHeld => ?_)
 ·(try dsimp only); refine grx_mk ?_; first | exact grown_refl _ _ | exact grown_drewN (grown_refl _ _) _ | exact grown_drew (grown_refl _ _)
 refine tq 0 (some 5) ?_
 (try simp only [apz])
 refine tq 1 (some 6) ?_
 (try simp only [apz])
 refine tq 2 (some 7) ?_
 (try simp only [apz])
 refine tq 3 (some 8) ?_
 (try simp only [apz])
 refine tq 4 (some 9) ?_
 (try simp only [apz])
 refine tq 5 (some 10) ?_
 (try simp only [apz])
 refine tq 6 (some 11) ?_
 (try simp only [apz])
 refine tq 7 (some 12) ?_
 (try simp only [apz])
 refine tq 8 (some 13) ?_
 (try simp only [apz])
 refine tq 9 (some 14) ?_
 (try simp only [apz])
 refine wpAnyH_ready (rs := [10]) (by kernel_rfl) (by simp) ?_
 refine AllReadyH.cons rfl (fun K hK => ?_) AllReadyH.nil
 go_simp
 go_at_call 60
 (with_reducible refine (Hq1.out _ ?_).mono ?_)
 ·exact belt
 rintro e w2 ⟨rfl, P2, hP2, hH2, gx, hfx⟩
 have gz : w.grownBy w2 (some g) := grown_then (grown_of_below (show Below w.heap.size w _ from belt) _) gx (.inl rfl)
 refine hK.out _ _ ?_ (fun hHeld => ?_)
 ·(try dsimp only); exact grx_mk gz
 clear hK K
 (try simp only [apz])
 refine tq 11 (some 4) ?_
 (try simp only [apz])
 refine wpAnyH_done (by kernel_rfl) ?_ _
 have hfz : ∀ x, x < w.heap.size → LkP.Far ⟨L, A, p, B, r⟩ x → P2.Far x := fun x hx h => hfx x (by simpa using hx) h
 have ⟨HhP2, HhH2, Hgx, Hgz, Hhfx, Hhfz⟩ := hid6 hP2 hH2 gx gz hfx hfz; clear hP2 hH2 gx gz hfx hfz
 go_wp2_with fail
 go_ret
 exact ⟨rfl, P2, HhP2.out, HhH2.out, Hgz.out, Hhfz.out⟩
theorem runB_eq (Ps : List LkP) (cs : List Crd) (ss : List Sh4) (n m : Nat) (hn : Ps.length = n) (hm : cs.length = m) : runB (Ps.map LkP.L) cs ss = (lkpB Ps && cdsB cs && noneW n m ss) := by
 rw [runB, lkpB, List.length_map, hn, hm]
set_option maxHeartbeats 8000000 in
theorem drun_bad (A : Option Addr) (cp n : Nat) (Ps : List LkP) (X : Option Addr) (cx m : Nat) (cs : List Crd) (Y : Option Addr) (cy k : Nat) (ss : List Sh4) (w : World) (hn : Ps.length = n) (hm : cs.length = m) (hk : ss.length = k) (hn9 : n ≤ 100) (hm9 : m ≤ 1000) (hk9 : k ≤ 100)
  (hl : Locks w A Ps) (hcs : Cards w X cs) (hss : Shows w Y ss) (ht : Tab w) (hB : runB (Ps.map LkP.L) cs ss = false) :
  Calls Tryz.prog 9 #[.slice A n cp, .slice X m cx, .slice Y k cy] w (RunRes [] [] 1 w) := by
 obtain ⟨w0, hw0⟩ : ∃ W, (w.alloc (.cells #[.slice A n cp] 22)).alloc (.cells #[.slice X m cx] 23) = W := ⟨_, rfl⟩
 have bb0 : Below w.heap.size w w0 := by rw [← hw0]; exact ((Below.refl _ _).alloc (Nat.le_refl _) _).alloc (by simp) _
 have k0 : Blk w0 w.heap.size #[.slice A n cp] := by rw [← hw0]; exact (blk_new rfl).alloc _
 have j0 : Blk w0 (w.heap.size + 1) #[.slice X m cx] := by rw [← hw0]; exact blk_new (by simp)
 have z0 : w.heap.size + 1 < w0.heap.size := by rw [← hw0]; simp
 have q1 := fun W (h : Below w.heap.size w W) => dlcontains_any A cp n Ps hn (by omega) W (hl.below h) (ht.below h)
 have q2 := fun W (h : Below w.heap.size w W) => dcards_any X cx m cs hm (by omega) W (hcs.below h)
 have q3 := fun W (h : Below w.heap.size w W) (h1 : W.cell? ⟨w.heap.size, 0, none⟩ = some (.slice A n cp)) (h2 : W.cell? ⟨w.heap.size + 1, 0, none⟩ = some (.slice X m cx)) (h3 : w.heap.size + 1 < W.heap.size) => dwcontains_any Y cy k ss w.heap.size (w.heap.size + 1) A X n cp m cx hk (by omega) W (hss.below h) h1 h2 (by omega) h3
 rw [runB_eq Ps cs ss n m hn hm] at hB
 have g1 : ¬ (500 : Int) < (k : Int) := by omega
 have d1 : decide ((500 : Int) < (k : Int)) = false := decide_eq_false g1
 have g2 : ¬ (400 : Int) < (n : Int) := by omega
 have d2 : decide ((400 : Int) < (n : Int)) = false := decide_eq_false g2
 generalize lkpB Ps = V1 at *
 generalize cdsB cs = V2 at *
 generalize noneW n m ss = V3 at *
 cases V1 with
 | false =>
  have ⟨Hhw0, Hbb0, Hk0, Hj0, Hq1, Hq2, Hq3, Hhl⟩ := hid8 hw0 bb0 k0 j0 q1 q2 q3 hl; clear hw0 bb0 k0 j0 q1 q2 q3 hl; have ⟨Hhcs, Hhss, Hht, HhB, Hhn, Hhm, Hhk⟩ := hid7 hcs hss ht hB hn hm hk; clear hcs hss ht hB hn hm hk
  go_enter Tryz.func9, Tryz.ntmps9
  go_upto_region 1 with (fail)
  rw [Hhw0.out]
  have y0 := (Hk0.out 0 _ rfl).at
  have x0 := (Hj0.out 0 _ rfl).at
  go_wp2_with fail
  (with_reducible refine (Hq1.out _ ?_).mono ?_)
  ·exact Hbb0.out.trans ((show Below w0.heap.size w0 _ from belt).mono Hbb0.out.size)
  rintro e w1 ⟨rfl, b1⟩
  have c1 : Below w0.heap.size w0 w1 := Below.trans belt (b1.mono omh)
  have s1 := c1.size
  have bb1 := Hbb0.out.trans (c1.mono Hbb0.out.size)
  have ⟨Hb1, Hc1, Hbb1⟩ := hid3 b1 c1 bb1; clear b1 c1 bb1
  go_wp2_with fail
  refine bodyPost_ret (v := .tuple #[.slice none 0 0, .slice none 0 0, .int .i64 1]) (by simp [results, Tryz.results9, go_sem, *]) rfl (runRes_nil Hbb1.out)
 | true =>
  cases V2 with
  | false =>
   have ⟨Hhw0, Hbb0, Hk0, Hj0, Hq1, Hq2, Hq3, Hhl⟩ := hid8 hw0 bb0 k0 j0 q1 q2 q3 hl; clear hw0 bb0 k0 j0 q1 q2 q3 hl; have ⟨Hhcs, Hhss, Hht, HhB, Hhn, Hhm, Hhk⟩ := hid7 hcs hss ht hB hn hm hk; clear hcs hss ht hB hn hm hk
   go_enter Tryz.func9, Tryz.ntmps9
   go_upto_region 1 with (fail)
   rw [Hhw0.out]
   have y0 := (Hk0.out 0 _ rfl).at
   have x0 := (Hj0.out 0 _ rfl).at
   go_wp2_with fail
   (with_reducible refine (Hq1.out _ ?_).mono ?_)
   ·exact Hbb0.out.trans ((show Below w0.heap.size w0 _ from belt).mono Hbb0.out.size)
   rintro e w1 ⟨rfl, b1⟩
   have c1 : Below w0.heap.size w0 w1 := Below.trans belt (b1.mono omh)
   have s1 := c1.size
   have bb1 := Hbb0.out.trans (c1.mono Hbb0.out.size)
   have k1 := Hk0.out.below c1
   have j1 := Hj0.out.below c1
   have ⟨Hb1, Hc1, Hbb1, Hk1, Hj1⟩ := hid5 b1 c1 bb1 k1 j1; clear b1 c1 bb1 k1 j1
   clear y0 x0
   have y0 := (Hk1.out 0 _ rfl).at
   have x0 := (Hj1.out 0 _ rfl).at
   go_wp2_with fail
   (with_reducible refine (Hq2.out _ ?_).mono ?_)
   ·exact Hbb1.out.trans ((show Below w1.heap.size w1 _ from belt).mono Hbb1.out.size)
   rintro e w2 ⟨rfl, b2⟩
   have c2 : Below w1.heap.size w1 w2 := Below.trans belt (b2.mono omh)
   have s2 := c2.size
   have bb2 := Hbb1.out.trans (c2.mono Hbb1.out.size)
   have ⟨Hb2, Hc2, Hbb2⟩ := hid3 b2 c2 bb2; clear b2 c2 bb2
   go_wp2_with fail
   refine bodyPost_ret (v := .tuple #[.slice none 0 0, .slice none 0 0, .int .i64 1]) (by simp [results, Tryz.results9, go_sem, *]) rfl (runRes_nil Hbb2.out)
  | true =>
   simp only [Bool.true_and] at hB
   subst hB
   have ⟨Hhw0, Hbb0, Hk0, Hj0, Hq1, Hq2, Hq3, Hhl⟩ := hid8 hw0 bb0 k0 j0 q1 q2 q3 hl; clear hw0 bb0 k0 j0 q1 q2 q3 hl; have ⟨Hhcs, Hhss, Hht, Hhn, Hhm, Hhk⟩ := hid6 hcs hss ht hn hm hk; clear hcs hss ht hn hm hk
   go_enter Tryz.func9, Tryz.ntmps9
   go_upto_region 1 with (fail)
   rw [Hhw0.out]
   have y0 := (Hk0.out 0 _ rfl).at
   have x0 := (Hj0.out 0 _ rfl).at
   go_wp2_with fail
   (with_reducible refine (Hq1.out _ ?_).mono ?_)
   ·exact Hbb0.out.trans ((show Below w0.heap.size w0 _ from belt).mono Hbb0.out.size)
   rintro e w1 ⟨rfl, b1⟩
   have c1 : Below w0.heap.size w0 w1 := Below.trans belt (b1.mono omh)
   have s1 := c1.size
   have bb1 := Hbb0.out.trans (c1.mono Hbb0.out.size)
   have k1 := Hk0.out.below c1
   have j1 := Hj0.out.below c1
   have ⟨Hb1, Hc1, Hbb1, Hk1, Hj1⟩ := hid5 b1 c1 bb1 k1 j1; clear b1 c1 bb1 k1 j1
   clear y0 x0
   have y0 := (Hk1.out 0 _ rfl).at
   have x0 := (Hj1.out 0 _ rfl).at
   go_wp2_with fail
   (with_reducible refine (Hq2.out _ ?_).mono ?_)
   ·exact Hbb1.out.trans ((show Below w1.heap.size w1 _ from belt).mono Hbb1.out.size)
   rintro e w2 ⟨rfl, b2⟩
   have c2 : Below w1.heap.size w1 w2 := Below.trans belt (b2.mono omh)
   have s2 := c2.size
   have bb2 := Hbb1.out.trans (c2.mono Hbb1.out.size)
   have k2 := Hk1.out.below c2
   have j2 := Hj1.out.below c2
   have ⟨Hb2, Hc2, Hbb2, Hk2, Hj2⟩ := hid5 b2 c2 bb2 k2 j2; clear b2 c2 bb2 k2 j2
   clear y0 x0
   have y0 := (Hk2.out 0 _ rfl).at
   have x0 := (Hj2.out 0 _ rfl).at
   have s12 := Hbb2.out.size
   go_wp2_with fail
   (with_reducible refine (Hq3.out _ ?_ ?_ ?_ ?_).mono ?_)
   ·exact Hbb2.out.trans ((show Below w2.heap.size w2 _ from belt).mono Hbb2.out.size)
   ·exact y0
   ·exact x0
   ·omega
   rintro e w3 ⟨rfl, b3⟩
   have c3 : Below w2.heap.size w2 w3 := Below.trans belt (b3.mono omh)
   have s3 := c3.size
   have bb3 := Hbb2.out.trans (c3.mono Hbb2.out.size)
   have ⟨Hb3, Hc3, Hbb3⟩ := hid3 b3 c3 bb3; clear b3 c3 bb3
   go_wp2_with fail
   refine bodyPost_ret (v := .tuple #[.slice none 0 0, .slice none 0 0, .int .i64 1]) (by simp [results, Tryz.results9, go_sem, *]) rfl (runRes_nil Hbb3.out)
section
/-- the one block that may have turned is no cells -/
def Turned (W W' : World) (row : Option Nat) : Prop := W.grownBy W' row ∧ ∀ r, row = some r → ∃ o : Obj, W.heap[r]? = some o ∧ o.isCells = false
section
variable {W W' : World} {row : Option Nat}
theorem Turned.cell (t : Turned W W' row) {a : Addr} {v : Value} (h : W.cell? a = some v) : W'.cell? a = some v := cell_kept h t.1 t.2
theorem Turned.size (t : Turned W W' row) : W.heap.size ≤ W'.heap.size := t.1.size
theorem Turned.cel (t : Turned W W' row) {b o : Nat} {v : Value} (h : Cel W b o v) : Cel W' b o v := ⟨Nat.lt_of_lt_of_le h.lt t.size, t.cell h.at, (frozen_kept h.at t.1 t.2).trans h.free⟩
theorem Turned.blk (t : Turned W W' row) {b : Nat} {vs : Array Value} (h : Blk W b vs) : Blk W' b vs := fun o v hv => t.cel (h o v hv)
theorem Turned.ints (t : Turned W W' row) {A : Option Addr} {k : IntKind} {l : List Int} (h : IntsAt W A k l) : IntsAt W' A k l := fun i hi => by
 obtain ⟨b, off, e, h1, h2⟩ := h i hi
 exact ⟨b, off, e, Nat.lt_of_lt_of_le h1 t.size, t.cell h2⟩
theorem Turned.rows (t : Turned W W' row) {α : Type} {C : Nat} {At : World → List Value → α → Prop} {A : Option Addr} {l : List α} (h : RowsAt C At W A l) (hAt : ∀ cs z, At W cs z → At W' cs z) : RowsAt C At W' A l := fun i z hz => by
 obtain ⟨b, off, cs, e, hlt, hl, hc, ha⟩ := h i z hz
 refine ⟨b, off, cs, e, Nat.lt_of_lt_of_le hlt t.size, hl, fun j hj => ?_, hAt cs z ha⟩
 have := hc j hj
 rw [List.getElem?_eq_getElem (by omega)] at this ⊢
 exact t.cell this
theorem Turned.ok (t : Turned W W' row) {P : LkP} (h : P.Ok W) : P.Ok W' := ⟨t.ints h.a, t.ints h.b, h.fx, h.fy⟩
theorem Turned.house (t : Turned W W' row) {g : Nat} {Ps : List LkP} (h : House g W Ps) : House g W' Ps := ⟨t.blk h.blk, fun P hP => t.ok (h.ok P hP), h.far⟩
theorem Turned.locks (t : Turned W W' row) {A : Option Addr} {Ps : List LkP} (h : Locks W A Ps) : Locks W' A Ps := t.rows h fun _ _ h => ⟨h.1, t.ok h.2⟩
theorem Turned.own (t : Turned W W' row) {α : Type} {E : TypeId} {C : Nat} {cells : α → List Value} {base : Nat} {A : Option Addr} {c : Nat} {l : List α} (h : OwnRows E C cells W base A c l) : OwnRows E C cells W' base A c l := by
 refine h.kept t.1 ?_
 by_cases hA : blockOf A = none
 ·exact .inl hA
 refine .inr fun e => ?_
 rcases h.2 with ⟨hv, _⟩ | ⟨g, cap, cur, hv, _, hh, _⟩
 ·injection hv with h1 _ _
  rw [h1] at hA; exact hA rfl
 ·injection hv with h1 _ _
  rw [h1] at e
  obtain ⟨o, ho, hc⟩ := t.2 g e.symm
  rw [hh] at ho
  cases ho
  cases hc
end
theorem turned_put {W : World} {l : Nat} {o : Obj} (o' : Obj) (hl : W.heap[l]? = some o) (hc : o.isCells = false) : Turned W (W.putObj l o') (some l) := ⟨grownBy_putObj' W l o', fun r e => by cases e; exact ⟨o, hl, hc⟩⟩
theorem below_putObj {n : Nat} {W : World} {l : Nat} (o' : Obj) (h : n ≤ l) : Below n W (W.putObj l o') :=
 have g := grownBy_putObj' W l o'
 ⟨g.os, g.tape, g.output, g.size, fun k hk => World.putObj_heap_other (by omega)⟩
end
theorem showings_any (A B : Option Addr) (n c m d : Nat) (w : World) : Calls Tryz.prog 30 #[.slice A n c, .slice B m d] w fun e w' =>
  e = .returned (.func (.func 58) #[] #[.pointer (some ⟨w.heap.size + 1, 0, none⟩), .pointer (some ⟨w.heap.size, 0, none⟩)]) ∧ Below w.heap.size w w' ∧ w'.cell? ⟨w.heap.size + 1, 0, none⟩ = some (.slice B m d) ∧ w'.cell? ⟨w.heap.size, 0, none⟩ = some (.slice A n c) ∧ w'.heap.size = w.heap.size + 2 := by
 obtain ⟨w0, hw0⟩ : ∃ W, (w.alloc (.cells #[.slice A n c] 23)).alloc (.cells #[.slice B m d] 24) = W := ⟨_, rfl⟩
 have bb0 : Below w.heap.size w w0 := by rw [← hw0]; exact ((Below.refl _ _).alloc (Nat.le_refl _) _).alloc (by simp) _
 have k0 : Blk w0 w.heap.size #[.slice A n c] := by rw [← hw0]; exact (blk_new rfl).alloc _
 have j0 : Blk w0 (w.heap.size + 1) #[.slice B m d] := by rw [← hw0]; exact blk_new (by simp)
 have s0 : w0.heap.size = w.heap.size + 2 := by rw [← hw0]; simp
 have ⟨Hhw0, Hbb0, Hk0, Hj0, Hs0⟩ := hid5 hw0 bb0 k0 j0 s0; clear hw0 bb0 k0 j0 s0
 go_enter Tryz.func30, Tryz.ntmps30
 go_upto_region 1 with (fail)
 rw [Hhw0.out]
 go_wp2_with fail
 go_ret
 exact ⟨rfl, Hbb0.out, (Hj0.out 0 _ rfl).at, (Hk0.out 0 _ rfl).at, Hs0.out⟩
end Go.Proofs.YtclgncaghiinhaaGreatDoor
