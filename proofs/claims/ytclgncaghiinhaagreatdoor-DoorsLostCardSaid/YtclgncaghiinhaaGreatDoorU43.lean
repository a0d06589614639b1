/- Package doors: a door that is shown a card. -/
import Derived.Test.YtclgncaghiinhaaGreatDoorU35
import Derived.Test.YtclgncaghiinhaaGreatDoorU36
set_option linter.unusedSimpArgs false
set_option linter.unusedVariables false
set_option maxRecDepth 100000
namespace Go.Proofs.YtclgncaghiinhaaGreatDoor
open Go.RowKit
/-- twelve cells in a block, from some place on -/
def At12 (w : World) (g o : Nat) (cs : List Value) : Prop := ∀ j v, cs[j]? = some v → Cel w g (o + j) v
theorem At12.below {w w' : World} {g o : Nat} {cs : List Value} (h : At12 w g o cs) (hb : Below w.heap.size w w') : At12 w' g o cs := fun j v hv => (h j v hv).below hb
theorem House.at12 {g : Nat} {w : World} {Ps : List LkP} (h : House g w Ps) {i : Nat} {P : LkP} (hi : Ps[i]? = some P) {o : Nat} (ho : i * 12 = o) : At12 w g o P.cells := fun j v hv => by rw [← ho]; exact h.at hi hv
theorem getSet {α : Type} {l : List α} {i : Nat} {x y : α} (h : l[i]? = some x) : (l.set i y)[i]? = some y := by
 rw [List.getElem?_set, if_pos rfl, if_pos (List.getElem?_eq_some_iff.1 h).1]
set_option maxHeartbeats 16000000 in
theorem dshow_any (g i : Nat) (L : Lk) (A : Option Addr) (p : Nat) (B : Option Addr) (r : Nat) (Ps : List LkP) (c : Crd) (t a : Int) (u w : World) (hH : House g w Ps) (hi : Ps[i]? = some ⟨L, A, p, B, r⟩) (hv : lvB L = true) (hc : CFit c) (hu : Below u.heap.size u w) (hg : u.heap.size ≤ g) (ht : Tab u) :
  Calls Tryz.prog 60 #[.pointer (some ⟨g, i * 12, none⟩), .agg c.cells.toArray, .int .i64 t, .int .i64 a] w fun e w' => e = .returned (.bool (stp L c t a).2) ∧ ∃ P : LkP, P.L = (stp L c t a).1 ∧ House g w' (Ps.set i P) ∧ w.grownBy w' (some g) ∧ ∀ x, x < w.heap.size → LkP.Far ⟨L, A, p, B, r⟩ x → P.Far x := by
 have hgw : g < w.heap.size := (hH.at hi (j := 0) rfl).lt
 have hok := hH.ok _ (List.mem_of_getElem? hi)
 have hfr := hH.far _ (List.mem_of_getElem? hi)
 obtain ⟨o, ho⟩ : ∃ o, i * 12 = o := ⟨_, rfl⟩
 obtain ⟨w0, hw0⟩ : ∃ W, w.alloc (.cells c.cells.toArray 28) = W := ⟨_, rfl⟩
 have bb0 : Below w.heap.size w w0 := by rw [← hw0]; exact (Below.refl _ _).alloc (Nat.le_refl _) _
 have k0 : Blk w0 w.heap.size c.cells.toArray := by rw [← hw0]; exact blk_new rfl
 have h0 := hH.below bb0
 have d0 : At12 w0 g o (L.cells A L.x.l.length p B L.y.l.length r) := h0.at12 hi ho
 have u0 := hu.trans (bb0.mono hu.size)
 have zu := hu.size
 have pw := pw_of hv true
 have q1 := fun W (h : Below w0.heap.size w0 W) => lpower_any L true A L.x.l.length p B L.y.l.length r W ((hok.below (bb0.trans (h.mono bb0.size))).x) ((hok.below (bb0.trans (h.mono bb0.size))).y) (ht.below (u0.trans (h.mono u0.size)))
 rw [pw.2, pw.1] at q1
 have q2 := fun W A p B r (h1 : IntsAt W A .i64 L.x.l) (h2 : IntsAt W B .i64 L.y.l) (h3 : Below u.heap.size u W) => show_any { L with up := true } c t a A L.x.l.length p B L.y.l.length r W (hok.fx.is h1) (hok.fy.is h2) (ht.below h3) hc
 have fZ := sh_fit (l := { L with up := true }) (c := c) (t := t) (a := a) hc hok.fx hok.fy
 rw [ho]
 have e1 : stp L c t a = if shE { L with up := true } c t a = 0 then (shR { L with up := true } c t a, shO { L with up := true } c t a) else ({ L with up := true }, false) := rfl
 rw [e1]
 generalize shE { L with up := true } c t a = E at *
 generalize shR { L with up := true } c t a = Z at *
 generalize shO { L with up := true } c t a = OZ at *
 unfold LockErr Lk.cells at q1
 unfold ShowPost Lk.cells Crd.cells at q2
 unfold Lk.cells at d0
 unfold Crd.cells at k0 hw0 ⊢
 dsimp only at q1 q2
 have ⟨Hbb0, Hk0, Hh0, Hd0, Hu0, Hhw0, Hq1, Hq2⟩ := hid8 bb0 k0 h0 d0 u0 hw0 q1 q2; clear bb0 k0 h0 d0 u0 hw0 q1 q2; have ⟨HfZ, He1, HhH, Hhok, Hhfr, Hhu, Hht, Hhi⟩ := hid8 fZ e1 hH hok hfr hu ht hi; clear fZ e1 hH hok hfr hu ht hi; have ⟨Hho, Hpw⟩ := hid2 ho pw; clear ho pw
 go_enter Tryz.func60, Tryz.ntmps60
 go_upto_region 1 with (fail)
 rw [Hhw0.out]
 have y0 := (Hd0.out 0 _ rfl).at
 have y1 := (Hd0.out 1 _ rfl).at
 have y2 := (Hd0.out 2 _ rfl).at
 have y3 := (Hd0.out 3 _ rfl).at
 have y4 := (Hd0.out 4 _ rfl).at
 have y5 := (Hd0.out 5 _ rfl).at
 have y6 := (Hd0.out 6 _ rfl).at
 have y7 := (Hd0.out 7 _ rfl).at
 have y8 := (Hd0.out 8 _ rfl).at
 have y9 := (Hd0.out 9 _ rfl).at
 have y10 := (Hd0.out 10 _ rfl).at
 have y11 := (Hd0.out 11 _ rfl).at
 simp only [Nat.add_zero] at y0
 have ly := (Hd0.out 0 _ rfl).lt
 go_wp2_with fail
 (with_reducible refine (Hq1.out _ ?_).mono ?_)
 ·exact (show Below w0.heap.size w0 _ from belt)
 rintro e w1 ⟨A1, p1, B1, r1, rfl, pa, pb, b1⟩
 have c1 : Below w0.heap.size w0 w1 := Below.trans belt (b1.mono omh)
 have s1 := c1.size
 have bb1 := Hbb0.out.trans (c1.mono Hbb0.out.size)
 have k1 := Hk0.out.below c1
 have h1 := Hh0.out.below c1
 have d1 := Hd0.out.below c1
 have ⟨Hb1, Hc1, Hbb1, Hk1, Hh1, Hd1⟩ := hid6 b1 c1 bb1 k1 h1 d1; clear b1 c1 bb1 k1 h1 d1
 clear ly y0 y1 y2 y3 y4 y5 y6 y7 y8 y9 y10 y11
 have oa := pa.offB Hhfr.out.a (by have := Hbb0.out.size; omega)
 have ob := pb.offB Hhfr.out.b (by have := Hbb0.out.size; omega)
 have ok1 : LkP.Ok ⟨{ L with up := true }, A1, p1, B1, r1⟩ w1 := ⟨pa.1, pb.1, Hhok.out.fx, Hhok.out.fy⟩
 have u1 := Hhu.out.trans (Hbb1.out.mono zu)
 obtain ⟨w2, hw2⟩ : ∃ W, putL w1 g o (LkP.cells ⟨{ L with up := true }, A1, p1, B1, r1⟩) = W := ⟨_, rfl⟩
 have h2 : House g w2 (Ps.set i ⟨{ L with up := true }, A1, p1, B1, r1⟩) := by rw [← hw2, ← Hho.out]; exact Hh1.out.put Hhi.out ok1 ⟨oa, ob⟩
 have ok2 := h2.ok _ (List.mem_of_getElem? (getSet Hhi.out))
 have d2 := h2.at12 (getSet Hhi.out) Hho.out
 have k2 : Blk w2 w.heap.size #[.int .i64 c.i, .int .i64 c.k, .int .i64 c.d, .int .i64 c.n, .int .i64 c.f, .int .i64 c.u, .int .i64 c.l, .int .i64 c.e, .int .i64 c.s] := by rw [← hw2]; exact putL_far Hk1.out (by omega) _ _
 have u2 : Below u.heap.size u w2 := by rw [← hw2]; exact putL_below hg _ _ _ u1
 have g2 : w.grownBy w2 (some g) := by rw [← hw2]; exact grown_then (grown_of_below Hbb1.out _) (putL_grown _ _ _) (.inl rfl)
 have s2 : w2.heap.size = w1.heap.size := by rw [← hw2]; exact putL_size _ _ _
 have zk := (k2 0 _ rfl).lt
 have zg := (d2 0 _ rfl).lt
 unfold LkP.cells Lk.cells at hw2 d2
 dsimp only at hw2 d2
 simp only [putL, Nat.add_assoc, Nat.reduceAdd] at hw2
 have far1 : ∀ x, x < w.heap.size → LkP.Far ⟨L, A, p, B, r⟩ x → OffB A1 L.x.l x ∧ OffB B1 L.y.l x := fun x hx h => ⟨pa.offB h.a (by have := Hbb0.out.size; omega), pb.offB h.b (by have := Hbb0.out.size; omega)⟩
 have sz2 : w.heap.size ≤ w2.heap.size := g2.size
 have fr2 := h2.far _ (List.mem_of_getElem? (getSet Hhi.out))
 clear pa pb oa ob s2
 have ⟨Hfr2, Hfar1, Hok1, Hu1, Hh2, Hok2, Hk2, Hu2⟩ := hid8 fr2 far1 ok1 u1 h2 ok2 k2 u2; clear fr2 far1 ok1 u1 h2 ok2 k2 u2; have ⟨Hg2, Hd2, Hhw2⟩ := hid3 g2 d2 hw2; clear g2 d2 hw2
 have y0 := (Hd1.out 0 _ rfl).at
 have y1 := (Hd1.out 1 _ rfl).at
 have y2 := (Hd1.out 2 _ rfl).at
 have y3 := (Hd1.out 3 _ rfl).at
 have y4 := (Hd1.out 4 _ rfl).at
 have y5 := (Hd1.out 5 _ rfl).at
 have y6 := (Hd1.out 6 _ rfl).at
 have y7 := (Hd1.out 7 _ rfl).at
 have y8 := (Hd1.out 8 _ rfl).at
 have y9 := (Hd1.out 9 _ rfl).at
 have y10 := (Hd1.out 10 _ rfl).at
 have y11 := (Hd1.out 11 _ rfl).at
 have f0 := (Hd1.out 0 _ rfl).free
 have f1 := (Hd1.out 1 _ rfl).free
 have f2 := (Hd1.out 2 _ rfl).free
 have f3 := (Hd1.out 3 _ rfl).free
 have f4 := (Hd1.out 4 _ rfl).free
 have f5 := (Hd1.out 5 _ rfl).free
 have f6 := (Hd1.out 6 _ rfl).free
 have f7 := (Hd1.out 7 _ rfl).free
 have f8 := (Hd1.out 8 _ rfl).free
 have f9 := (Hd1.out 9 _ rfl).free
 have f10 := (Hd1.out 10 _ rfl).free
 have f11 := (Hd1.out 11 _ rfl).free
 simp only [Nat.add_zero] at y0 f0
 have ly := (Hd1.out 0 _ rfl).lt
 go_upto_region 2 with (fail)
 rw [Hhw2.out]
 clear ly y0 y1 y2 y3 y4 y5 y6 y7 y8 y9 y10 y11 f0 f1 f2 f3 f4 f5 f6 f7 f8 f9 f10 f11
 have y0 := (Hd2.out 0 _ rfl).at
 have y1 := (Hd2.out 1 _ rfl).at
 have y2 := (Hd2.out 2 _ rfl).at
 have y3 := (Hd2.out 3 _ rfl).at
 have y4 := (Hd2.out 4 _ rfl).at
 have y5 := (Hd2.out 5 _ rfl).at
 have y6 := (Hd2.out 6 _ rfl).at
 have y7 := (Hd2.out 7 _ rfl).at
 have y8 := (Hd2.out 8 _ rfl).at
 have y9 := (Hd2.out 9 _ rfl).at
 have y10 := (Hd2.out 10 _ rfl).at
 have y11 := (Hd2.out 11 _ rfl).at
 obtain ⟨z0, z1, z2, z3, z4, z5, z6, z7, z8⟩ := at9_of Hk2.out
 simp only [Nat.add_zero] at y0
 go_cut [9, 10, 11] from 23 to 34 (fun c9 c10 c11 wx => ∃ nx A3 p3 B3 r3, c9 = .pointer (some ⟨nx, 0, none⟩) ∧ c10 = .bool OZ ∧ c11 = .int .i64 E ∧ w2.heap.size ≤ nx ∧ Blk wx nx (Z.cells A3 Z.x.l.length p3 B3 Z.y.l.length r3).toArray ∧ IntsAt wx A3 .i64 Z.x.l ∧ IntsAt wx B3 .i64 Z.y.l ∧ (∀ x, x < w.heap.size → LkP.Far ⟨L, A, p, B, r⟩ x → OffB A3 Z.x.l x ∧ OffB B3 Z.y.l x) ∧ Below w2.heap.size w2 wx)
 case first =>
  refine wp_region_held_drew (S := (fun W => (∀ b o, b < w2.heap.size → W.cell? ⟨b, o, none⟩ = w2.cell? ⟨b, o, none⟩) ∧ Below w2.heap.size w2 W)) (by kernel_rfl) ?_ (fun hHeld => ?_)
  ·(try dsimp only); (first | (refine ext_mk ?_; exact belt))
  refine tq 0 (some 24) ?_
  (try simp only [apz])
  refine tq 1 (some 25) ?_
  (try simp only [apz])
  refine tq 2 (some 26) ?_
  (try simp only [apz])
  refine tq 3 (some 27) ?_
  (try simp only [apz])
  refine tq 4 (some 28) ?_
  (try simp only [apz])
  refine tq 5 (some 29) ?_
  (try simp only [apz])
  refine tq 6 (some 30) ?_
  (try simp only [apz])
  refine wpAnyH_ready (rs := [7, 12]) (by kernel_rfl) (by simp) ?_
  refine AllReadyH.cons rfl (fun K hK => ?_) (AllReadyH.cons rfl (fun K hK => ?_) AllReadyH.nil)
  ·go_simp
   (go_at_call 87; (with_reducible refine (Hq2.out _ A1 p1 B1 r1 ?_ ?_ ?_).mono ?_); (focus (exact Hok2.out.a.below (And.right (by assumption : _ ∧ Below w2.heap.size w2 _)))); (focus (exact Hok2.out.b.below (And.right (by assumption : _ ∧ Below w2.heap.size w2 _)))); (focus (exact Hu2.out.trans ((And.right (by assumption : _ ∧ Below w2.heap.size w2 _)).mono Hu2.out.size))); rintro e w3 ⟨A3, p3, B3, r3, rfl, pa3, pb3, hbw3⟩; have gw3 := Below.trans (And.right (by assumption : _ ∧ Below w2.heap.size w2 _)) (hbw3.mono (Below.size (And.right (by assumption : _ ∧ Below w2.heap.size w2 _)))); have gsw3 := gw3.size; have hcf := bcell hbw3; have hcw3 := hcf.1; have hfw3 := hcf.2; have hsw3 := hbw3.size; (try simp only [World.size_alloc, World.heap_drewN, heap_drew] at hsw3); have Hhbw3 := Lib.hid hbw3; clear hbw3 hcf; (try have hzw3 : w2.heap.size < w3.heap.size := by omega))
   have oA : ∀ x, x < w.heap.size → LkP.Far ⟨L, A, p, B, r⟩ x → OffB A3 Z.x.l x ∧ OffB B3 Z.y.l x := fun x hx h => ⟨pa3.offB (Hfar1.out x hx h).1 (by simp; omega), pb3.offB (Hfar1.out x hx h).2 (by simp; omega)⟩
   refine hK.out _ _ ?_ (fun hHeld => ?_)
   ·(try dsimp only); (first | (refine ext_mk ?_; exact belt))
   clear hK K
   (try simp only [apz])
   refine tq 8 (some 23) ?_
   (try simp only [apz])
   refine tq 9 (some 32) ?_
   (try simp only [apz])
   refine tq 10 (some 33) ?_
   (try simp only [apz])
   refine tq 11 (some 34) ?_
   (try simp only [apz])
   refine wpAnyH_ready (rs := [12]) (by kernel_rfl) (by simp) ?_
   refine AllReadyH.cons rfl (fun K hK => ?_) AllReadyH.nil
   go_simp
   refine hK.out _ _ ?_ (fun hHeld => ?_)
   ·(try dsimp only); (first | (refine ext_mk ?_; exact belt))
   clear hK K
   (try simp only [apz])
   refine wpAnyH_ready (rs := [13]) (by kernel_rfl) (by simp) ?_
   refine AllReadyH.cons rfl (fun K hK => ?_) AllReadyH.nil
   go_simp
   refine hK.out _ _ ?_ (fun hHeld => ?_)
   ·(try dsimp only); (first | (refine ext_mk ?_; exact belt))
   clear hK K
   (try simp only [apz])
   refine tq 14 (some 10) ?_
   (try simp only [apz])
   refine tq 15 (some 11) ?_
   (try simp only [apz])
   refine wpAnyH_done (by kernel_rfl) ?_ _
   have bl := gw3
   have ia := pa3.1
   have ib := pb3.1
   have ⟨HoA, Hbl, Hia, Hib, Hpa3, Hpb3⟩ := hid6 oA bl ia ib pa3 pb3; clear oA bl ia ib pa3 pb3
   go_wp2_with fail
   go_meet
   (case rel => exact ⟨w3.heap.size, A3, p3, B3, r3, rfl, rfl, rfl, Hbl.out.size, blk_new rfl, Hia.out.alloc _, Hib.out.alloc _, HoA.out, Hbl.out.alloc Hbl.out.size _⟩)
  ·go_simp
   refine hK.out _ _ ?_ (fun hHeld => ?_)
   ·(try dsimp only); (first | (refine ext_mk ?_; exact belt))
   clear hK K
   (try simp only [apz])
   refine wpAnyH_ready (rs := [7]) (by kernel_rfl) (by simp) ?_
   refine AllReadyH.cons rfl (fun K hK => ?_) AllReadyH.nil
   go_simp
   (go_at_call 87; (with_reducible refine (Hq2.out _ A1 p1 B1 r1 ?_ ?_ ?_).mono ?_); (focus (exact Hok2.out.a.below (And.right (by assumption : _ ∧ Below w2.heap.size w2 _)))); (focus (exact Hok2.out.b.below (And.right (by assumption : _ ∧ Below w2.heap.size w2 _)))); (focus (exact Hu2.out.trans ((And.right (by assumption : _ ∧ Below w2.heap.size w2 _)).mono Hu2.out.size))); rintro e w3 ⟨A3, p3, B3, r3, rfl, pa3, pb3, hbw3⟩; have gw3 := Below.trans (And.right (by assumption : _ ∧ Below w2.heap.size w2 _)) (hbw3.mono (Below.size (And.right (by assumption : _ ∧ Below w2.heap.size w2 _)))); have gsw3 := gw3.size; have hcf := bcell hbw3; have hcw3 := hcf.1; have hfw3 := hcf.2; have hsw3 := hbw3.size; (try simp only [World.size_alloc, World.heap_drewN, heap_drew] at hsw3); have Hhbw3 := Lib.hid hbw3; clear hbw3 hcf; (try have hzw3 : w2.heap.size < w3.heap.size := by omega))
   have oA : ∀ x, x < w.heap.size → LkP.Far ⟨L, A, p, B, r⟩ x → OffB A3 Z.x.l x ∧ OffB B3 Z.y.l x := fun x hx h => ⟨pa3.offB (Hfar1.out x hx h).1 (by simp; omega), pb3.offB (Hfar1.out x hx h).2 (by simp; omega)⟩
   have oA' := pa3.offB (g := w2.heap.size) (offB_old Hok2.out.a (Nat.le_refl _)) (by simp)
   have oB' := pb3.offB (g := w2.heap.size) (offB_old Hok2.out.b (Nat.le_refl _)) (by simp)
   refine hK.out _ _ ?_ (fun hHeld => ?_)
   ·(try dsimp only); (first | (refine ext_mk ?_; exact belt))
   clear hK K
   (try simp only [apz])
   refine tq 8 (some 23) ?_
   (try simp only [apz])
   refine tq 9 (some 32) ?_
   (try simp only [apz])
   refine tq 10 (some 33) ?_
   (try simp only [apz])
   refine tq 11 (some 34) ?_
   (try simp only [apz])
   have zB : Blk w3 w2.heap.size #[.int .i64 0, .int .i64 0, .int .i64 0, .int .i64 0, .int .i64 0, .slice none 0 0, .int .u64 0, .int .i64 0, .int .i64 0, .slice none 0 0, .int .u64 0, .bool false] := (Blk.below (blk_new (t := 48) rfl) (Below.refl _ _).drew).below Hhbw3.out
   have HzB := Lib.hid zB; clear zB
   obtain ⟨v0, v1, v2, v3, v4, v5, v6, v7, v8, v9, v10, v11⟩ := at12_of HzB.out
   obtain ⟨f0, f1, f2, f3, f4, f5, f6, f7, f8, f9, f10, f11⟩ := free12_of HzB.out
   have lv := (HzB.out 0 _ rfl).lt
   refine wpAnyH_ready (rs := [13]) (by kernel_rfl) (by simp) ?_
   refine AllReadyH.cons rfl (fun K hK => ?_) AllReadyH.nil
   go_simp
   refine hK.out _ _ ?_ (fun hHeld => ?_)
   ·(try dsimp only); (first | (refine ext_mk ?_; exact belt))
   clear hK K
   (try simp only [apz])
   refine tq 14 (some 10) ?_
   (try simp only [apz])
   refine tq 15 (some 11) ?_
   (try simp only [apz])
   refine wpAnyH_done (by kernel_rfl) ?_ _
   have bl := gw3
   have ia := putL_ints (b := w2.heap.size) oA' [.int .i64 Z.d, .int .i64 Z.k, .int .i64 Z.r, .int .i64 Z.x.s, .int .i64 Z.x.c, .slice A3 Z.x.l.length p3, .int .u64 Z.x.u, .int .i64 Z.y.s, .int .i64 Z.y.c, .slice B3 Z.y.l.length r3, .int .u64 Z.y.u, .bool Z.up] w3 0 pa3.1
   have ib := putL_ints (b := w2.heap.size) oB' [.int .i64 Z.d, .int .i64 Z.k, .int .i64 Z.r, .int .i64 Z.x.s, .int .i64 Z.x.c, .slice A3 Z.x.l.length p3, .int .u64 Z.x.u, .int .i64 Z.y.s, .int .i64 Z.y.c, .slice B3 Z.y.l.length r3, .int .u64 Z.y.u, .bool Z.up] w3 0 pb3.1
   have bz := putL_blk HzB.out [.int .i64 Z.d, .int .i64 Z.k, .int .i64 Z.r, .int .i64 Z.x.s, .int .i64 Z.x.c, .slice A3 Z.x.l.length p3, .int .u64 Z.x.u, .int .i64 Z.y.s, .int .i64 Z.y.c, .slice B3 Z.y.l.length r3, .int .u64 Z.y.u, .bool Z.up] (by simp)
   have bl2 := putL_below (b := w2.heap.size) (Nat.le_refl _) [.int .i64 Z.d, .int .i64 Z.k, .int .i64 Z.r, .int .i64 Z.x.s, .int .i64 Z.x.c, .slice A3 Z.x.l.length p3, .int .u64 Z.x.u, .int .i64 Z.y.s, .int .i64 Z.y.c, .slice B3 Z.y.l.length r3, .int .u64 Z.y.u, .bool Z.up] w3 0 bl
   simp only [putL, Nat.reduceAdd] at ia ib bz bl2
   have ⟨HoA, Hbl, Hbl2, Hia, Hib, Hbz, Hpa3, Hpb3⟩ := hid8 oA bl bl2 ia ib bz pa3 pb3; clear oA bl bl2 ia ib bz pa3 pb3; have ⟨HoA', HoB'⟩ := hid2 oA' oB'; clear oA' oB'
   go_wp2_with fail
   go_meet
   (case rel => exact ⟨w2.heap.size, A3, p3, B3, r3, rfl, rfl, rfl, Nat.le_refl _, Hbz.out, Hia.out, Hib.out, HoA.out, Hbl2.out⟩)
 case rest =>
  obtain ⟨nx, A3, p3, B3, r3, rfl, rfl, rfl, hnx, bZ, iA, iB, oA, c3⟩ := hcut
  obtain ⟨w3, hw3⟩ : ∃ W, wc = W := ⟨_, rfl⟩
  rw [hw3] at bZ iA iB c3 ⊢
  clear y0 y1 y2 y3 y4 y5 y6 y7 y8 y9 y10 y11 z0 z1 z2 z3 z4 z5 z6 z7 z8
  have h3 := Hh2.out.below c3
  have d3 := Hd2.out.below c3
  have g3 := grown_then Hg2.out (grown_of_below c3 (some g)) (.inl rfl)
  have s3 := c3.size
  have z3 := (d3 0 _ rfl).lt
  have zn := (bZ 0 _ rfl).lt
  by_cases hE : E = 0
  ·subst hE
   obtain ⟨fx, fy⟩ := HfZ.out
   have hF := h3.put (getSet Hhi.out) (P := ⟨Z, A3, p3, B3, r3⟩) ⟨iA, iB, fx, fy⟩ ⟨(oA g hgw Hhfr.out).1, (oA g hgw Hhfr.out).2⟩
   have gF := grown_then g3 (putL_grown (b := g) (LkP.cells ⟨Z, A3, p3, B3, r3⟩) w3 o) (.inl rfl)
   rw [List.set_set, Hho.out] at hF
   unfold LkP.cells Lk.cells at hF gF
   dsimp only at hF gF
   simp only [putL, Nat.add_assoc, Nat.reduceAdd] at hF gF
   unfold Lk.cells at bZ
   have ⟨Hhw3, HbZ, HiA, HiB, HoA, Hc3, Hh3, Hd3⟩ := hid8 hw3 bZ iA iB oA c3 h3 d3; clear hw3 bZ iA iB oA c3 h3 d3; have ⟨Hg3, Hfx, Hfy, HhF, HgF⟩ := hid5 g3 fx fy hF gF; clear g3 fx fy hF gF
   have y0 := (Hd3.out 0 _ rfl).at
   have y1 := (Hd3.out 1 _ rfl).at
   have y2 := (Hd3.out 2 _ rfl).at
   have y3 := (Hd3.out 3 _ rfl).at
   have y4 := (Hd3.out 4 _ rfl).at
   have y5 := (Hd3.out 5 _ rfl).at
   have y6 := (Hd3.out 6 _ rfl).at
   have y7 := (Hd3.out 7 _ rfl).at
   have y8 := (Hd3.out 8 _ rfl).at
   have y9 := (Hd3.out 9 _ rfl).at
   have y10 := (Hd3.out 10 _ rfl).at
   have y11 := (Hd3.out 11 _ rfl).at
   have f0 := (Hd3.out 0 _ rfl).free
   have f1 := (Hd3.out 1 _ rfl).free
   have f2 := (Hd3.out 2 _ rfl).free
   have f3 := (Hd3.out 3 _ rfl).free
   have f4 := (Hd3.out 4 _ rfl).free
   have f5 := (Hd3.out 5 _ rfl).free
   have f6 := (Hd3.out 6 _ rfl).free
   have f7 := (Hd3.out 7 _ rfl).free
   have f8 := (Hd3.out 8 _ rfl).free
   have f9 := (Hd3.out 9 _ rfl).free
   have f10 := (Hd3.out 10 _ rfl).free
   have f11 := (Hd3.out 11 _ rfl).free
   simp only [Nat.add_zero] at y0 f0
   obtain ⟨v0, v1, v2, v3, v4, v5, v6, v7, v8, v9, v10, v11⟩ := at12_of HbZ.out
   have ne1 : nx ≠ g := by omega
   go_wp2_with fail
   go_ret
   exact ⟨rfl, ⟨Z, A3, p3, B3, r3⟩, rfl, HhF.out, HgF.out, fun x hx h => ⟨(HoA.out x hx h).1, (HoA.out x hx h).2⟩⟩
  ·have j1 : (E != 0) = true := by simp [hE]
   have j2 : (E == 0) = false := by simp [hE]
   have ⟨Hhw3, HbZ, HiA, HiB, HoA, Hc3, Hh3, Hd3⟩ := hid8 hw3 bZ iA iB oA c3 h3 d3; clear hw3 bZ iA iB oA c3 h3 d3; have ⟨Hg3, HhE⟩ := hid2 g3 hE; clear g3 hE
   go_wp2_with fail
   go_ret
   exact ⟨rfl, ⟨{ L with up := true }, A1, p1, B1, r1⟩, rfl, Hh3.out, Hg3.out, fun x hx h => ⟨(Hfar1.out x hx h).1, (Hfar1.out x hx h).2⟩⟩
end Go.Proofs.YtclgncaghiinhaaGreatDoor
