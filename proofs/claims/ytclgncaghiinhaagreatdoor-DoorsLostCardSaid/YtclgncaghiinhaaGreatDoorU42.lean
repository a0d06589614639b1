/- Package doors: locks that are not valid. -/
import Derived.Test.YtclgncaghiinhaaGreatDoorU35
import Derived.Test.YtclgncaghiinhaaGreatDoorU36
import Derived.Test.YtclgncaghiinhaaGreatDoorU38
import Derived.Test.YtclgncaghiinhaaGreatDoorU39
import Derived.Test.YtclgncaghiinhaaGreatDoorU41
set_option linter.unusedSimpArgs false
set_option linter.unusedVariables false
set_option maxRecDepth 100000
namespace Go.Proofs.YtclgncaghiinhaaGreatDoor
open Go.RowKit
/-- the card of a guest, signed -/
def hcd (id n : Int) : Crd := mkdC (gst id 12 n) 5 7
theorem hcd_may {id n : Int} (h1 : 1 ≤ id ∧ id ≤ 1000000) (h2 : 1 ≤ n ∧ n ≤ 1000000000) : mayMk (gst id 12 n) 5 7 = true := by
 have := gst_v (id := id) (door := 12) (n := n) (e := 0) (s := 0) h1 (by omega) h2 (by omega) (by omega)
 have a : wthB 5 1 = true := by decide
 have b : wthB 7 1 = true := by decide
 rw [mayMk, this, a, b]; rfl
structure Hcd (c : Crd) (id n : Int) : Prop where
 i : c.i = id
 k : c.k = 1
 d : c.d = 12
 n : c.n = n
 f : c.f = 100
 u : c.u = 900
 v : cvB c = true
 g : chkB c 1024 = true
theorem hcd_at {id n : Int} (h1 : 1 ≤ id ∧ id ≤ 1000000) (h2 : 1 ≤ n ∧ n ≤ 1000000000) : Hcd (hcd id n) id n := by
 have hm := hcd_may h1 h2
 have hv := mkd_v hm
 have hr := (mkd_right hm).1
 have e5 : (5 : Int).toNat = 5 := rfl
 rw [e5, pw45] at hr
 have e : hcd id n = (gst id 12 n).sig (sigE (5 : Int).toNat (7 : Int).toNat (gst id 12 n).msg) (sigS (5 : Int).toNat (7 : Int).toNat (gst id 12 n).msg) := by rw [hcd, mkdC, if_pos hm]
 refine ⟨?_, ?_, ?_, ?_, ?_, ?_, hv, hr⟩ <;> rw [e] <;> rfl
/-- the lock of the example -/
def hl0 : Lk := ⟨12, 1024, 5, Slt.made 1 0 [], Slt.zero, true⟩
theorem made10 : (Slt.made 1 0 []).ok = true := made_ok (by decide)
theorem best_l0 : bestI (Slt.made 1 0 []) Slt.zero = 0 ∧ bestB (Slt.made 1 0 []) Slt.zero = true := by simp [bestI, bestB, zero_ok, made10]
theorem hmem1024 : memZ 1024 = true := by
 have := (hcd_at (id := 1) (n := 3) (by omega) (by omega)).g
 unfold chkB at this
 simp only [Bool.and_eq_true] at this
 exact this.1.2
/-- a lock of the example -/
structure Hlk (z : Lk) (n s : Int) : Prop where
 d : z.d = 12
 k : z.k = 1024
 r : z.r = 5
 v : lvB z = true
 c : (keepS z).c = n
 l : (keepS z).l = []
 s : (keepS z).s ≤ s
theorem hacc {l : Lk} {c : Crd} {n s id k : Int} {t : Int} (hl : Hlk l n s) (hc : Hcd c id k) : accB l c t = true ↔ (askB t 5 100 900 = true ∧ mayB t 5 100 900 = true) ∧ n ≤ k := by
 rw [acc_iff, hl.r, hc.f, hc.u, hc.d, hl.d, hl.l, hl.c, hc.n, hc.k]
 simp
theorem free_is (c : Crd) : ∀ bs : List Crd, freeB c bs = !(rvkD bs c.i || (decide (c.k = 1) && newD bs c.n))
 | [] => by simp [freeB, rvkD, newD]
 | b :: r => by
  have ih := free_is c r
  have e1 : freeB c (b :: r) = (!barB b c && freeB c r) := rfl
  have e2 : rvkD (b :: r) c.i = ((decide (b.k = 3) && decide (b.l = c.i)) || rvkD r c.i) := rfl
  have e3 : newD (b :: r) c.n = ((decide (b.k = 1) && decide (c.n < b.n)) || newD r c.n) := rfl
  rw [e1, e2, e3, ih, barB]
  generalize decide (b.k = 3) = x1
  generalize decide (b.l = c.i) = x2
  generalize decide (b.k = 1) = x3
  generalize decide (c.k = 1) = x4
  generalize decide (c.n < b.n) = x5
  generalize rvkD r c.i = x6
  generalize newD r c.n = x7
  revert x1 x2 x3 x4 x5 x6 x7
  decide
theorem may_is (bs : List Crd) (c : Crd) (key t : Int) : mayW bs c key t = mayD bs c key t := by
 have e1 : (!decide (t < c.f)) = decide (c.f ≤ t) := by
  by_cases h : t < c.f
  ·rw [decide_eq_true h, decide_eq_false (by omega)]; rfl
  ·rw [decide_eq_false h, decide_eq_true (by omega)]; rfl
 have e2 : (!decide (c.u ≤ t)) = decide (t < c.u) := by
  by_cases h : c.u ≤ t
  ·rw [decide_eq_true h, decide_eq_false (by omega)]; rfl
  ·rw [decide_eq_false h, decide_eq_true (by omega)]; rfl
 rw [mayW, mayD, free_is, e1, e2, inD]
 generalize decide (c.k = 3) = x1
 generalize rvkD bs c.i = x2
 generalize (decide (c.k = 1) && newD bs c.n) = x3
 generalize decide (c.f ≤ t) = x4
 generalize decide (t < c.u) = x5
 generalize chkB c key = x6
 revert x1 x2 x3 x4 x5 x6
 decide
/-- one lock with an exact clock: what counts afterwards, and what opens -/
def nxtB (door key : Int) (bs : List Crd) (c : Crd) (s : Shw) : List Crd := if 2 ≤ s.a ∧ cntD bs c door key s.t = true then bs ++ [c] else bs
def opnB (door key : Int) (bs : List Crd) (c : Crd) (s : Shw) : Bool := mayD bs c key s.t && (decide (c.d = door) || decide (c.d = 0)) && decide (s.a = 3)
def exO (cs : List Crd) (door key : Int) : List Crd → List Shw → List Bool
 | _, [] => []
 | bs, s :: r => opnB door key bs (cdD cs s.j) s :: exO cs door key (nxtB door key bs (cdD cs s.j) s) r
theorem exact_run (cs : List Crd) {door key : Int} : ∀ (p : List Shw) (L : Lk) (bs : List Crd), Bef L bs door key → (∀ s ∈ p, s.i = 0 ∧ cvB (cdD cs s.j) = true ∧ timeB s.t = true ∧ 0 ≤ s.a ∧ s.a ≤ 3) → bs.length + p.length ≤ 400 → runO cs [L] p = exO cs door key bs p
 | [], _, _, _, _, _ => rfl
 | s :: r, L, bs, hb, hp, hl => by
  obtain ⟨h0, h1, h2, h3⟩ := hp s List.mem_cons_self
  rw [List.length_cons] at hl
  obtain ⟨e1, e2⟩ := hb.step (c := cdD cs s.j) (t := s.t) (a := s.a) h1 h2 h3 (by omega)
  have eL : lkD [L] s.i = L := by rw [h0]; rfl
  have eS : oneS cs [L] s = [(stp L (cdD cs s.j) s.t s.a).1] := by rw [oneS, eL, h0]; rfl
  rw [runO, exO, oneO, eL, eS]
  have ih := exact_run cs r _ _ e2 (fun x hx => hp x (List.mem_cons_of_mem _ hx)) (by
   split
   ·rw [List.length_append, List.length_cons, List.length_nil]; omega
   ·omega)
  rw [ih, e1]; rfl
/-- the example: the card of a guest -/
def gc (id n : Int) : Crd := ⟨id, 1, 4, n, 10, 90, 0, 0, 0⟩
def hc4 (id n : Int) : Crd := mkdC (gc id n) 5 6
theorem gc_fit {id n : Int} (h1 : -9223372036854775808 ≤ id ∧ id ≤ 9223372036854775807) (h3 : -9223372036854775808 ≤ n ∧ n ≤ 9223372036854775807) : CFit (gc id n) :=
 ⟨h1, by simp [gc], by simp [gc], h3, by simp [gc], by simp [gc], by simp [gc], by simp [gc], by simp [gc]⟩
theorem gc_v {id n : Int} {e s : Int} (h1 : 1 ≤ id ∧ id ≤ 1000000) (h3 : 1 ≤ n ∧ n ≤ 1000000000) (he : 0 ≤ e ∧ e < 1073741789) (hs : 0 ≤ s ∧ s < 1073741789) : cvB ((gc id n).sig e s) = true :=
 cvB_iff.2 ⟨⟨he, hs, h1, by simp [gc, Crd.sig], by simp [gc, Crd.sig], by simp [gc, Crd.sig]⟩, .inl ⟨rfl, by simp [gc, Crd.sig], h3, rfl⟩⟩
theorem hc4_may {id n : Int} (h1 : 1 ≤ id ∧ id ≤ 1000000) (h2 : 1 ≤ n ∧ n ≤ 1000000000) : mayMk (gc id n) 5 6 = true := by
 have := gc_v (id := id) (n := n) (e := 0) (s := 0) h1 h2 (by omega) (by omega)
 have a : wthB 5 1 = true := by decide
 have b : wthB 6 1 = true := by decide
 rw [mayMk, this, a, b]; rfl
theorem hc4_fit (id n : Int) (h1 : 1 ≤ id ∧ id ≤ 1000000) (h2 : 1 ≤ n ∧ n ≤ 1000000000) : CFit (hc4 id n) := mkd_fit 5 6 (gc_fit (by omega) (by omega))
structure Hc4 (c : Crd) (id n : Int) : Prop where
 i : c.i = id
 k : c.k = 1
 d : c.d = 4
 n : c.n = n
 f : c.f = 10
 u : c.u = 90
 v : cvB c = true
 g : chkB c 1024 = true
theorem hc4_at {id n : Int} (h1 : 1 ≤ id ∧ id ≤ 1000000) (h2 : 1 ≤ n ∧ n ≤ 1000000000) : Hc4 (hc4 id n) id n := by
 have hm := hc4_may h1 h2
 have hv := mkd_v hm
 have hr := (mkd_right hm).1
 have e5 : (5 : Int).toNat = 5 := rfl
 rw [e5, pw45] at hr
 have e : hc4 id n = (gc id n).sig (sigE (5 : Int).toNat (6 : Int).toNat (gc id n).msg) (sigS (5 : Int).toNat (6 : Int).toNat (gc id n).msg) := by rw [hc4, mkdC, if_pos hm]
 refine ⟨?_, ?_, ?_, ?_, ?_, ?_, hv, hr⟩ <;> rw [e] <;> rfl
/-- the lock of the example, and any new lock with an exact clock -/
def nl (d : Int) : Lk := ⟨d, 1024, 0, Slt.made 1 0 [], Slt.zero, true⟩
theorem fm_nl {d : Int} (h : 1 ≤ d ∧ d ≤ 400) : fmB d 1024 0 = true := by
 have a : decide ((1 : Int) ≤ d) = true := decide_eq_true h.1
 have b : decide (d ≤ (400 : Int)) = true := decide_eq_true h.2
 have c : errB 0 = true := by decide
 rw [fmB, a, b, c, hmem1024]; rfl
theorem lv_nl {d : Int} (h : 1 ≤ d ∧ d ≤ 400) : lvB (nl d) = true := by
 have a : bestB (nl d).x (nl d).y = true := best_l0.2
 have b : fmB (nl d).d (nl d).k (nl d).r = true := fm_nl h
 rw [lvB, a, b]; rfl
theorem keep_nl (d : Int) : keepS (nl d) = Slt.made 1 0 [] := by
 have a : bestI (nl d).x (nl d).y = 0 := best_l0.1
 rw [keepS, a]; rfl
theorem nw_nl {d : Int} (h : 1 ≤ d ∧ d ≤ 400) : nwR d 1024 0 = nl d ∧ nwE d 1024 0 = 0 := by rw [nwR, nwE, if_pos (fm_nl h), if_pos (fm_nl h)]; exact ⟨rfl, rfl⟩
theorem bef_nl {d : Int} (h : 1 ≤ d ∧ d ≤ 400) : Bef (nl d) [] d 1024 :=
 ⟨lv_nl h, rfl, rfl, rfl, (fun b hb => by cases hb), .inl (by rw [keep_nl]; rfl), fun x => by rw [keep_nl]; simp [Slt.made], by rw [keep_nl]; simp [Slt.made], by rw [keep_nl]; simp [Slt.made]⟩
theorem sfit_made1 : SFit (Slt.made 1 0 []) := ⟨by simp only [Slt.made]; omega, by simp only [Slt.made]; omega, fun x hx => by simp [Slt.made] at hx, by simp only [Slt.made]; exact sumS_in _ _ _, by simp [Slt.made]⟩
theorem dbad_any (L : Lk) (A : Option Addr) (p : Nat) (B : Option Addr) (r : Nat) (w : World) (h : LkP.Ok ⟨L, A, p, B, r⟩ w) (ht : Tab w) :
  Calls Tryz.prog 27 #[.agg (L.cells A L.x.l.length p B L.y.l.length r).toArray] w fun e w' => e = .returned (.bool (!lvB L)) ∧ Below w.heap.size w w' := by
 have b1 : Below w.heap.size w (w.alloc (.cells (L.cells A L.x.l.length p B L.y.l.length r).toArray 48)) := (Below.refl _ _).alloc (Nat.le_refl _) _
 have q := lvalid_any L A L.x.l.length p B L.y.l.length r (w.alloc (.cells (L.cells A L.x.l.length p B L.y.l.length r).toArray 48)) (h.below b1).x (h.below b1).y (ht.below b1)
 generalize lvB L = R at *
 unfold Lk.cells at q b1 ⊢
 have ⟨Hq, Hb1, Hh, Hht⟩ := hid4 q b1 h ht; clear q b1 h ht
 go_enter Tryz.func27, Tryz.ntmps27
 go_wp2_with fail
 refine Hq.out.mono ?_
 rintro e w2 ⟨rfl, b2⟩
 have bb := Hb1.out.trans (b2.mono (by simp))
 have ⟨Hb2, Hbb⟩ := hid2 b2 bb; clear b2 bb
 go_wp2_with fail
 go_ret
 exact ⟨rfl, Hbb.out⟩
def lkpB (Ps : List LkP) : Bool := lksB (Ps.map LkP.L)
theorem lkpB_drop {Ps : List LkP} {k : Nat} {P : LkP} (h : Ps[k]? = some P) : lkpB (Ps.drop k) = (lvB P.L && lkpB (Ps.drop (k + 1))) := by
 obtain ⟨hk, rfl⟩ := List.getElem?_eq_some_iff.1 h
 rw [List.drop_eq_getElem_cons hk]; rfl
set_option maxHeartbeats 4000000 in
theorem dlindex_any (A : Option Addr) (cp n : Nat) (Ps : List LkP) (hln : Ps.length = n) (hn : n ≤ 9223372036854775807) (w : World) (hl : Locks w A Ps) (ht : Tab w) :
  Calls Tryz.prog 55 #[.slice A n cp, .func (.func 27) #[] #[]] w (IdxPost (lkpB Ps) w) := by
 generalize hR : lkpB Ps = R
 have h0 : R = lkpB (Ps.drop 0) := by rw [List.drop_zero]; exact hR.symm
 have ⟨Hhl, Hhln, HhR, Hh0, Hht⟩ := hid5 hl hln hR h0 ht; clear hl hln hR h0 ht
 go_enter Tryz.func55, Tryz.ntmps55
 go_wp2_with fail
 go_loopw [8] (fun i wr => ∃ (k : Nat), k ≤ n ∧ i = .int .i64 k ∧ R = lkpB (Ps.drop k) ∧ Below w.heap.size w wr) (fun i _ => n - (intOf i).toNat)
 case atStart => exact ⟨0, by omega, rfl, Hh0.out, Below.refl _ _⟩
 case round =>
  obtain ⟨k, hk, rfl, hRk, hb⟩ := hrel
  by_cases hlt : k < n
  ·obtain ⟨⟨L, A2, p, B, r⟩, hP⟩ : ∃ P, Ps[k]? = some P := ⟨_, List.getElem?_eq_getElem (by rw [Hhln.out]; exact hlt)⟩
   obtain ⟨b, off, rfl, hbl, hok, hcell⟩ := (Hhl.out.below hb).at hP
   rw [lkpB_drop hP] at hRk
   have q := dbad_any L A2 p B r wr hok (Hht.out.below hb)
   have c0 := hcell 0 _ rfl; have c1 := hcell 1 _ rfl; have c2 := hcell 2 _ rfl; have c3 := hcell 3 _ rfl; have c4 := hcell 4 _ rfl; have c5 := hcell 5 _ rfl; have c6 := hcell 6 _ rfl; have c7 := hcell 7 _ rfl; have c8 := hcell 8 _ rfl; have c9 := hcell 9 _ rfl; have c10 := hcell 10 _ rfl; have c11 := hcell 11 _ rfl
   simp only [Nat.add_zero] at c0
   clear hcell hok
   unfold Lk.cells at q
   dsimp only at hRk c0 c1 c2 c3 c4 c5 c6 c7 c8 c9 c10 c11
   generalize lvB L = X at *
   have g1 : (k : Int) < (n : Int) := by omega
   have g0 : (0 : Int) ≤ (k : Int) := by omega
   have ⟨Hq, HhRk, HhP, Hhb⟩ := hid4 q hRk hP hb; clear q hRk hP hb
   go_wp2_with fail
   refine Hq.out.mono ?_
   rintro e w2 ⟨rfl, b2⟩
   have bb := Hhb.out.trans (b2.mono Hhb.out.size)
   clear c0 c1 c2 c3 c4 c5 c6 c7 c8 c9 c10 c11
   have ⟨Hb2, Hbb⟩ := hid2 b2 bb; clear b2 bb
   cases X with
   | true =>
    go_wp2_with fail
    go_roundw
    case rel => exact ⟨k + 1, by omega, by go_num, by rw [HhRk.out, Bool.true_and], Hbb.out⟩
    case measure => simp [intOf]; omega
   | false =>
    go_wp2_with fail
    go_ret
    exact ⟨k, rfl, by rw [HhRk.out]; simp, by omega, by omega, Hbb.out⟩
  ·have : Ps.drop k = [] := List.drop_eq_nil_of_le (by rw [Hhln.out]; omega)
   rw [this] at hRk
   have ⟨HhRk, Hhb, Hthis⟩ := hid3 hRk hb this; clear hRk hb this
   go_wp2_with fail
   go_ret
   exact ⟨-1, rfl, by rw [HhRk.out]; rfl, by omega, by omega, Hhb.out⟩
theorem dlcontains_any (A : Option Addr) (cp n : Nat) (Ps : List LkP) (hln : Ps.length = n) (hn : n ≤ 9223372036854775807) (w : World) (hl : Locks w A Ps) (ht : Tab w) :
  Calls Tryz.prog 26 #[.slice A n cp, .func (.func 27) #[] #[]] w fun e w' => e = .returned (.bool (!lkpB Ps)) ∧ Below w.heap.size w w' := by
 have q := dlindex_any A cp n Ps hln hn w hl ht
 generalize lkpB Ps = R at *
 unfold IdxPost at q
 have ⟨Hq, Hhl, Hhln, Hht⟩ := hid4 q hl hln ht; clear q hl hln ht
 go_enter Tryz.func26, Tryz.ntmps26
 go_wp2_with fail
 refine Hq.out.mono ?_
 rintro e w2 ⟨i, rfl, hi, i0, i1, b2⟩
 have Hb2 := Lib.hid b2; clear b2
 cases R with
 | true =>
  have hi2 : ¬ (0 ≤ i) := by simpa using hi
  go_wp2_with fail
  go_ret
  exact ⟨ret_bool (by simp), Hb2.out⟩
 | false =>
  have hi2 : 0 ≤ i := by simpa using hi
  go_wp2_with fail
  go_ret
  exact ⟨ret_bool (by simp), Hb2.out⟩
end Go.Proofs.YtclgncaghiinhaaGreatDoor
