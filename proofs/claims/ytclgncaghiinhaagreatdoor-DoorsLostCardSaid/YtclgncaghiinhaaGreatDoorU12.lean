/- The contract of card.Valid. -/
import Derived.Deep.CutRange
import Derived.Test.YtclgncaghiinhaaGreatDoorU8
import Derived.Test.YtclgncaghiinhaaGreatDoorU11
set_option linter.unusedSimpArgs false
set_option linter.unusedVariables false
set_option maxRecDepth 100000
namespace Go.Proofs.YtclgncaghiinhaaGreatDoor
open Go.RowKit
section
open Go.RowKit Go.Maps
/-- what is looked up -/
def needK (k : Int) : Value := if k = 1 then needV 1 400 1 1000000000 0 0 else if k = 2 then needV 0 400 0 0 0 0 else if k = 3 then needV 0 400 0 0 1 1000000 else needV 0 0 0 0 0 0
theorem kind_at (k : Int) (z : DataW Value) : kindD.atKey (.int .i64 k) z = if k = 3 then .held (needV 0 400 0 0 1 1000000) else if k = 2 then .held (needV 0 400 0 0 0 0) else if k = 1 then .held (needV 1 400 1 1000000000 0 0) else z := by
 unfold kindD
 rw [at_put_int ((isMap_empty.put _ _).put _ _), at_put_int (isMap_empty.put _ _), at_put_int isMap_empty]; rfl
theorem kind_has (k : Int) : Maps.has kindD (.int .i64 k) = decide (k = 1 ∨ k = 2 ∨ k = 3) := by
 unfold kindD
 rw [has_put_int ((isMap_empty.put _ _).put _ _), has_put_int (isMap_empty.put _ _), has_put_int isMap_empty]
 rw [Bool.eq_iff_iff]; simp [Maps.has]; omega
theorem zero_need (w : World) : (zeroValue 116).run Tryz.prog w = .ok (needV 0 0 0 0 0 0) w := by kernel_rfl
theorem kinds_look {w : World} {b : Nat} (h : MapAt w Tryz.prog 3 b 3 kindD) (k : Int) (hk : -9223372036854775808 ≤ k ∧ k ≤ 9223372036854775807) :
  (Instr.lookup 118 (.map (some b)) (.int .i64 k) true).run Tryz.prog w = .ok (.tuple #[needK k, .bool (decide (k = 1 ∨ k = 2 ∨ k = 3))]) w := by
 refine h.look_ok (int_keyed Tryz.underlying3) Tryz.underlying118 (zero_need w) (keyOf_int_mk Tryz.underlying3 (WalkArith.wf_i64 hk)) ?_ (kind_has k)
 rw [kind_at]; unfold needK
 by_cases h1 : k = 1
 ·subst h1; rfl
 ·by_cases h2 : k = 2
  ·subst h2; rfl
  ·by_cases h3 : k = 3
   ·subst h3; rfl
   ·rw [if_neg h3, if_neg h2, if_neg h1, if_neg h1, if_neg h2, if_neg h3]
/-- a card behind kinds()[c.Kind] -/
def AtNeed (w1 wx : World) (h : Nat) (c : Crd) (B : Nat) (a b d e f g : Int) : Prop := Below w1.heap.size w1 wx ∧ Blk wx h c.cells.toArray ∧ Blk wx B #[.int .i64 a, .int .i64 b, .int .i64 d, .int .i64 e, .int .i64 f, .int .i64 g]
theorem need_new {w1 w2 : World} {h : Nat} {c : Crd} {a b d e f g : Int} {t : TypeId} (hb : Below w1.heap.size w1 w2) (hg : Blk w1 h c.cells.toArray) :
  AtNeed w1 (w2.alloc (.cells #[.int .i64 a, .int .i64 b, .int .i64 d, .int .i64 e, .int .i64 f, .int .i64 g] t)) h c w2.heap.size a b d e f g :=
 ⟨hb.alloc hb.size _, (hg.below hb).alloc _, blk_new rfl⟩
theorem need_old {w1 w2 : World} {h : Nat} {c : Crd} {a b d e f g : Int} (hb : Below w1.heap.size w1 w2) (hg : Blk w1 h c.cells.toArray) (hlt : h < w1.heap.size) (z : Blk w2 w1.heap.size #[.int .i64 0, .int .i64 0, .int .i64 0, .int .i64 0, .int .i64 0, .int .i64 0]) :
  AtNeed w1 (putL w2 w1.heap.size 0 [.int .i64 a, .int .i64 b, .int .i64 d, .int .i64 e, .int .i64 f, .int .i64 g]) h c w1.heap.size a b d e f g :=
 ⟨putL_below (Nat.le_refl _) _ _ _ hb, putL_far (hg.below hb) (by omega) _ _, putL_blk z _ (by simp)⟩
set_option maxHeartbeats 4000000 in
theorem cvalid_kind (c : Crd) (hc : CFit c) (ok : Bool) (a b d e f g : Int) (hV : needK c.k = needV a b d e f g) (hok : decide (c.k = 1 ∨ c.k = 2 ∨ c.k = 3) = ok) (w : World)
    (fin : cvB c = true ↔ ok = true ∧ baseP c ∧ (a ≤ c.d ∧ c.d ≤ b) ∧ (d ≤ c.n ∧ c.n ≤ e) ∧ (f ≤ c.l ∧ c.l ≤ g) ∧ c.l ≠ c.i) :
    Calls Tryz.prog 35 #[.agg c.cells.toArray] w fun e w' => e = .returned (.bool (cvB c)) ∧ Below w.heap.size w w' := by
  obtain ⟨w1, hw1⟩ : ∃ w1, w.alloc (.cells c.cells.toArray 28) = w1 := ⟨_, rfl⟩
  have b1 : Below w.heap.size w w1 := by rw [← hw1]; exact (Below.refl _ _).alloc (Nat.le_refl _) _
  have s1 : w1.heap.size = w.heap.size + 1 := by rw [← hw1]; simp
  have g1 : Blk w1 w.heap.size c.cells.toArray := by rw [← hw1]; exact blk_new rfl
  have q1 := fun W => kinds_any W
  unfold NewMap at q1
  have lk := fun (W : World) (b : Nat) (h : MapAt W Tryz.prog 3 b 3 kindD) => kinds_look h c.k hc.k
  rw [hV, hok] at lk
  unfold needV at lk
  have i := hc.i; have k := hc.k; have d' := hc.d; have n := hc.n; have ff := hc.f; have u := hc.u; have l := hc.l; have ee := hc.e; have s := hc.s
  unfold Crd.cells at hw1 g1 ⊢
  generalize cvB _ = R at *
  have ⟨Hhc, HhV, Hhok, Hhw1, Hb1, Hs1, Hg1, Hq1⟩ := hid8 hc hV hok hw1 b1 s1 g1 q1; clear hc hV hok hw1 b1 s1 g1 q1; have ⟨Hfin, Hlk, Hi, Hk, Hd', Hn, Hff, Hu⟩ := hid8 fin lk i k d' n ff u; clear fin lk i k d' n ff u; have ⟨Hl, Hee, Hs⟩ := hid3 l ee s; clear l ee s
  go_enter Tryz.func35, Tryz.ntmps35
  go_upto_region 1 with (fail)
  rw [Hhw1.out]
  obtain ⟨c0, c1, c2, c3, c4, c5, c6, c7, c8⟩ := at9_of Hg1.out
  have lt := (Hg1.out 0 _ rfl).lt
  go_cut [3, 4] from 6 to 12 (fun c3 c4 wx => c4 = .bool ok ∧ ∃ B, c3 = .pointer (some ⟨B, 0, none⟩) ∧ AtNeed w1 wx w.heap.size c B a b d e f g)
  case first =>
    go_region_held3 (fun W => (∀ b o, b < w1.heap.size → W.cell? ⟨b, o, none⟩ = w1.cell? ⟨b, o, none⟩) ∧ Below w1.heap.size w1 W) (first | (refine ext_mk ?_; exact belt)) (((go_at_call 70; (with_reducible refine (Hq1.out _).mono ?_); rintro e w2 ⟨bk, rfl, mk, hbw2⟩; have gw2 := Below.trans (And.right (by assumption : _ ∧ Below w1.heap.size w1 _)) (hbw2.mono (Below.size (And.right (by assumption : _ ∧ Below w1.heap.size w1 _)))); have gsw2 := gw2.size; have hcf := bcell hbw2; have hcw2 := hcf.1; have hfw2 := hcf.2; have hsw2 := hbw2.size; (try simp only [World.size_alloc, World.heap_drewN, heap_drew] at hsw2); clear hbw2 hcf; (try have hzw2 : w1.heap.size < w2.heap.size := by omega)); have hL1 := Hlk.out w2 bk mk; have hL2 := fun o => Hlk.out (w2.alloc o) bk (mk.alloc o)))
    all_goals
      go_wp2_with fail
      first
      | (have nd := need_new (t := 116) (a := a) (b := b) (d := d) (e := e) (f := f) (g := g) (c := c) gw2 Hg1.out
         have Hnd := Lib.hid nd; clear nd
         go_meet
         case rel => with_reducible exact ⟨rfl, _, rfl, Hnd.out⟩)
      | (have z2 : Blk w2 w1.heap.size #[.int .i64 0, .int .i64 0, .int .i64 0, .int .i64 0, .int .i64 0, .int .i64 0] := fun o v h => ⟨by omega, (hcw2 _ _ (by simp)).trans (cel_new rfl h).at, (hfw2 _ _ (by simp)).trans (cel_new rfl h).free⟩
         have nd := need_old (a := a) (b := b) (d := d) (e := e) (f := f) (g := g) (c := c) gw2 Hg1.out lt z2
         simp only [putL, Nat.reduceAdd] at nd
         have ⟨Hnd, Hz2⟩ := hid2 nd z2; clear nd z2
         go_meet
         case rel => with_reducible exact ⟨rfl, _, rfl, Hnd.out⟩)
  case rest =>
    obtain ⟨rfl, B, rfl, nd⟩ := hcut
    obtain ⟨w3, hw3⟩ : ∃ W, wc = W := ⟨_, rfl⟩
    rw [hw3] at nd ⊢
    obtain ⟨n1, n2, n3⟩ := nd
    unfold Crd.cells at n2
    have bb := Hb1.out.trans (n1.mono Hb1.out.size)
    clear c0 c1 c2 c3 c4 c5 c6 c7 c8
    have ⟨Hn1, Hn2, Hn3, Hhw3, Hbb⟩ := hid5 n1 n2 n3 hw3 bb; clear n1 n2 n3 hw3 bb
    obtain ⟨c0, c1, c2, c3, c4, c5, c6, c7, c8⟩ := at9_of Hn2.out
    have m0 := (Hn3.out 0 _ rfl).at
    have m1 := (Hn3.out 1 _ rfl).at
    have m2 := (Hn3.out 2 _ rfl).at
    have m3 := (Hn3.out 3 _ rfl).at
    have m4 := (Hn3.out 4 _ rfl).at
    have m5 := (Hn3.out 5 _ rfl).at
    have q11 := cwithin_any c.i 1 1000000 w3
    have q12 := cexponent_any c.e w3
    have q13 := cexponent_any c.s w3
    have q14 := cwithin_any c.d a b w3
    have q15 := cwithin_any c.n d e w3
    have q16 := cwithin_any c.l f g w3
    have x1 := @wB_iff c.i 1 1000000
    have x2 := @wB_iff c.e 0 1073741788
    have x3 := @wB_iff c.s 0 1073741788
    have x4 := @wB_iff c.d a b
    have x5 := @wB_iff c.n d e
    have x6 := @wB_iff c.l f g
    have fin := Hfin.out
    unfold baseP at fin
    generalize wB c.i 1 1000000 = b1 at *
    generalize wB c.e 0 1073741788 = b2 at *
    generalize wB c.s 0 1073741788 = b3 at *
    generalize wB c.d a b = b4 at *
    generalize wB c.n d e = b5 at *
    generalize wB c.l f g = b6 at *
    cases ok with
    | false =>
      have ⟨Hq11, Hq12, Hq13, Hq14, Hq15, Hq16, Hx1, Hx2⟩ := hid8 q11 q12 q13 q14 q15 q16 x1 x2; clear q11 q12 q13 q14 q15 q16 x1 x2; have ⟨Hx3, Hx4, Hx5, Hx6, Hfin⟩ := hid5 x3 x4 x5 x6 fin; clear x3 x4 x5 x6 fin
      go_wp2_with (first | (go_at_call 71; ((with_reducible refine (Hq11.out).mono ?_); rintro e w_ ⟨rfl, rfl⟩)) | (go_at_call 71; ((with_reducible refine (Hq14.out).mono ?_); rintro e w_ ⟨rfl, rfl⟩)) | (go_at_call 71; ((with_reducible refine (Hq15.out).mono ?_); rintro e w_ ⟨rfl, rfl⟩)) | (go_at_call 71; ((with_reducible refine (Hq16.out).mono ?_); rintro e w_ ⟨rfl, rfl⟩)) | (go_at_call 72; ((with_reducible refine (Hq12.out).mono ?_); rintro e w_ ⟨rfl, rfl⟩)) | (go_at_call 72; ((with_reducible refine (Hq13.out).mono ?_); rintro e w_ ⟨rfl, rfl⟩)))
      go_ret
      refine ⟨ret_bool ?_, Hbb.out⟩
      have x1 := Hx1.out; have x2 := Hx2.out; have x3 := Hx3.out; have x4 := Hx4.out; have x5 := Hx5.out; have x6 := Hx6.out; have fn := Hfin.out
      clear Hx1 Hx2 Hx3 Hx4 Hx5 Hx6 Hfin Hq11 Hq12 Hq13 Hq14 Hq15 Hq16
      try simp at x1 x2 x3 x4 x5 x6
      first | (symm; rw [Bool.eq_false_iff]; intro hR; have hf := fn.1 hR; (try simp at hf) <;> omega) | (symm; rw [fn]; simp; omega)
    | true =>
      cases b1 with
      | false =>
        have ⟨Hq11, Hq12, Hq13, Hq14, Hq15, Hq16, Hx1, Hx2⟩ := hid8 q11 q12 q13 q14 q15 q16 x1 x2; clear q11 q12 q13 q14 q15 q16 x1 x2; have ⟨Hx3, Hx4, Hx5, Hx6, Hfin⟩ := hid5 x3 x4 x5 x6 fin; clear x3 x4 x5 x6 fin
        go_wp2_with (first | (go_at_call 71; ((with_reducible refine (Hq11.out).mono ?_); rintro e w_ ⟨rfl, rfl⟩)) | (go_at_call 71; ((with_reducible refine (Hq14.out).mono ?_); rintro e w_ ⟨rfl, rfl⟩)) | (go_at_call 71; ((with_reducible refine (Hq15.out).mono ?_); rintro e w_ ⟨rfl, rfl⟩)) | (go_at_call 71; ((with_reducible refine (Hq16.out).mono ?_); rintro e w_ ⟨rfl, rfl⟩)) | (go_at_call 72; ((with_reducible refine (Hq12.out).mono ?_); rintro e w_ ⟨rfl, rfl⟩)) | (go_at_call 72; ((with_reducible refine (Hq13.out).mono ?_); rintro e w_ ⟨rfl, rfl⟩)))
        go_ret
        refine ⟨ret_bool ?_, Hbb.out⟩
        have x1 := Hx1.out; have x2 := Hx2.out; have x3 := Hx3.out; have x4 := Hx4.out; have x5 := Hx5.out; have x6 := Hx6.out; have fn := Hfin.out
        clear Hx1 Hx2 Hx3 Hx4 Hx5 Hx6 Hfin Hq11 Hq12 Hq13 Hq14 Hq15 Hq16
        try simp at x1 x2 x3 x4 x5 x6
        first | (symm; rw [Bool.eq_false_iff]; intro hR; have hf := fn.1 hR; (try simp at hf) <;> omega) | (symm; rw [fn]; simp; omega)
      | true =>
        by_cases h24 : c.f < 0
        · have dh24 : decide (c.f < 0) = true := decide_eq_true h24
          have ⟨Hq11, Hq12, Hq13, Hq14, Hq15, Hq16, Hx1, Hx2⟩ := hid8 q11 q12 q13 q14 q15 q16 x1 x2; clear q11 q12 q13 q14 q15 q16 x1 x2; have ⟨Hx3, Hx4, Hx5, Hx6, Hfin⟩ := hid5 x3 x4 x5 x6 fin; clear x3 x4 x5 x6 fin
          go_wp2_with (first | (go_at_call 71; ((with_reducible refine (Hq11.out).mono ?_); rintro e w_ ⟨rfl, rfl⟩)) | (go_at_call 71; ((with_reducible refine (Hq14.out).mono ?_); rintro e w_ ⟨rfl, rfl⟩)) | (go_at_call 71; ((with_reducible refine (Hq15.out).mono ?_); rintro e w_ ⟨rfl, rfl⟩)) | (go_at_call 71; ((with_reducible refine (Hq16.out).mono ?_); rintro e w_ ⟨rfl, rfl⟩)) | (go_at_call 72; ((with_reducible refine (Hq12.out).mono ?_); rintro e w_ ⟨rfl, rfl⟩)) | (go_at_call 72; ((with_reducible refine (Hq13.out).mono ?_); rintro e w_ ⟨rfl, rfl⟩)))
          go_ret
          refine ⟨ret_bool ?_, Hbb.out⟩
          have x1 := Hx1.out; have x2 := Hx2.out; have x3 := Hx3.out; have x4 := Hx4.out; have x5 := Hx5.out; have x6 := Hx6.out; have fn := Hfin.out
          clear Hx1 Hx2 Hx3 Hx4 Hx5 Hx6 Hfin Hq11 Hq12 Hq13 Hq14 Hq15 Hq16
          try simp at x1 x2 x3 x4 x5 x6
          first | (symm; rw [Bool.eq_false_iff]; intro hR; have hf := fn.1 hR; (try simp at hf) <;> omega) | (symm; rw [fn]; simp; omega)
        have dh24 : decide (c.f < 0) = false := decide_eq_false h24
        by_cases h36 : c.u ≤ c.f
        · have dh36 : decide (c.u ≤ c.f) = true := decide_eq_true h36
          have ⟨Hq11, Hq12, Hq13, Hq14, Hq15, Hq16, Hx1, Hx2⟩ := hid8 q11 q12 q13 q14 q15 q16 x1 x2; clear q11 q12 q13 q14 q15 q16 x1 x2; have ⟨Hx3, Hx4, Hx5, Hx6, Hfin⟩ := hid5 x3 x4 x5 x6 fin; clear x3 x4 x5 x6 fin
          go_wp2_with (first | (go_at_call 71; ((with_reducible refine (Hq11.out).mono ?_); rintro e w_ ⟨rfl, rfl⟩)) | (go_at_call 71; ((with_reducible refine (Hq14.out).mono ?_); rintro e w_ ⟨rfl, rfl⟩)) | (go_at_call 71; ((with_reducible refine (Hq15.out).mono ?_); rintro e w_ ⟨rfl, rfl⟩)) | (go_at_call 71; ((with_reducible refine (Hq16.out).mono ?_); rintro e w_ ⟨rfl, rfl⟩)) | (go_at_call 72; ((with_reducible refine (Hq12.out).mono ?_); rintro e w_ ⟨rfl, rfl⟩)) | (go_at_call 72; ((with_reducible refine (Hq13.out).mono ?_); rintro e w_ ⟨rfl, rfl⟩)))
          go_ret
          refine ⟨ret_bool ?_, Hbb.out⟩
          have x1 := Hx1.out; have x2 := Hx2.out; have x3 := Hx3.out; have x4 := Hx4.out; have x5 := Hx5.out; have x6 := Hx6.out; have fn := Hfin.out
          clear Hx1 Hx2 Hx3 Hx4 Hx5 Hx6 Hfin Hq11 Hq12 Hq13 Hq14 Hq15 Hq16
          try simp at x1 x2 x3 x4 x5 x6
          first | (symm; rw [Bool.eq_false_iff]; intro hR; have hf := fn.1 hR; (try simp at hf) <;> omega) | (symm; rw [fn]; simp; omega)
        have dh36 : decide (c.u ≤ c.f) = false := decide_eq_false h36
        by_cases h48 : 1000000000 < c.u
        · have dh48 : decide (1000000000 < c.u) = true := decide_eq_true h48
          have ⟨Hq11, Hq12, Hq13, Hq14, Hq15, Hq16, Hx1, Hx2⟩ := hid8 q11 q12 q13 q14 q15 q16 x1 x2; clear q11 q12 q13 q14 q15 q16 x1 x2; have ⟨Hx3, Hx4, Hx5, Hx6, Hfin⟩ := hid5 x3 x4 x5 x6 fin; clear x3 x4 x5 x6 fin
          go_wp2_with (first | (go_at_call 71; ((with_reducible refine (Hq11.out).mono ?_); rintro e w_ ⟨rfl, rfl⟩)) | (go_at_call 71; ((with_reducible refine (Hq14.out).mono ?_); rintro e w_ ⟨rfl, rfl⟩)) | (go_at_call 71; ((with_reducible refine (Hq15.out).mono ?_); rintro e w_ ⟨rfl, rfl⟩)) | (go_at_call 71; ((with_reducible refine (Hq16.out).mono ?_); rintro e w_ ⟨rfl, rfl⟩)) | (go_at_call 72; ((with_reducible refine (Hq12.out).mono ?_); rintro e w_ ⟨rfl, rfl⟩)) | (go_at_call 72; ((with_reducible refine (Hq13.out).mono ?_); rintro e w_ ⟨rfl, rfl⟩)))
          go_ret
          refine ⟨ret_bool ?_, Hbb.out⟩
          have x1 := Hx1.out; have x2 := Hx2.out; have x3 := Hx3.out; have x4 := Hx4.out; have x5 := Hx5.out; have x6 := Hx6.out; have fn := Hfin.out
          clear Hx1 Hx2 Hx3 Hx4 Hx5 Hx6 Hfin Hq11 Hq12 Hq13 Hq14 Hq15 Hq16
          try simp at x1 x2 x3 x4 x5 x6
          first | (symm; rw [Bool.eq_false_iff]; intro hR; have hf := fn.1 hR; (try simp at hf) <;> omega) | (symm; rw [fn]; simp; omega)
        have dh48 : decide (1000000000 < c.u) = false := decide_eq_false h48
        cases b2 with
        | false =>
          have ⟨Hq11, Hq12, Hq13, Hq14, Hq15, Hq16, Hx1, Hx2⟩ := hid8 q11 q12 q13 q14 q15 q16 x1 x2; clear q11 q12 q13 q14 q15 q16 x1 x2; have ⟨Hx3, Hx4, Hx5, Hx6, Hfin⟩ := hid5 x3 x4 x5 x6 fin; clear x3 x4 x5 x6 fin
          go_wp2_with (first | (go_at_call 71; ((with_reducible refine (Hq11.out).mono ?_); rintro e w_ ⟨rfl, rfl⟩)) | (go_at_call 71; ((with_reducible refine (Hq14.out).mono ?_); rintro e w_ ⟨rfl, rfl⟩)) | (go_at_call 71; ((with_reducible refine (Hq15.out).mono ?_); rintro e w_ ⟨rfl, rfl⟩)) | (go_at_call 71; ((with_reducible refine (Hq16.out).mono ?_); rintro e w_ ⟨rfl, rfl⟩)) | (go_at_call 72; ((with_reducible refine (Hq12.out).mono ?_); rintro e w_ ⟨rfl, rfl⟩)) | (go_at_call 72; ((with_reducible refine (Hq13.out).mono ?_); rintro e w_ ⟨rfl, rfl⟩)))
          go_ret
          refine ⟨ret_bool ?_, Hbb.out⟩
          have x1 := Hx1.out; have x2 := Hx2.out; have x3 := Hx3.out; have x4 := Hx4.out; have x5 := Hx5.out; have x6 := Hx6.out; have fn := Hfin.out
          clear Hx1 Hx2 Hx3 Hx4 Hx5 Hx6 Hfin Hq11 Hq12 Hq13 Hq14 Hq15 Hq16
          try simp at x1 x2 x3 x4 x5 x6
          first | (symm; rw [Bool.eq_false_iff]; intro hR; have hf := fn.1 hR; (try simp at hf) <;> omega) | (symm; rw [fn]; simp; omega)
        | true =>
          cases b3 with
          | false =>
            have ⟨Hq11, Hq12, Hq13, Hq14, Hq15, Hq16, Hx1, Hx2⟩ := hid8 q11 q12 q13 q14 q15 q16 x1 x2; clear q11 q12 q13 q14 q15 q16 x1 x2; have ⟨Hx3, Hx4, Hx5, Hx6, Hfin⟩ := hid5 x3 x4 x5 x6 fin; clear x3 x4 x5 x6 fin
            go_wp2_with (first | (go_at_call 71; ((with_reducible refine (Hq11.out).mono ?_); rintro e w_ ⟨rfl, rfl⟩)) | (go_at_call 71; ((with_reducible refine (Hq14.out).mono ?_); rintro e w_ ⟨rfl, rfl⟩)) | (go_at_call 71; ((with_reducible refine (Hq15.out).mono ?_); rintro e w_ ⟨rfl, rfl⟩)) | (go_at_call 71; ((with_reducible refine (Hq16.out).mono ?_); rintro e w_ ⟨rfl, rfl⟩)) | (go_at_call 72; ((with_reducible refine (Hq12.out).mono ?_); rintro e w_ ⟨rfl, rfl⟩)) | (go_at_call 72; ((with_reducible refine (Hq13.out).mono ?_); rintro e w_ ⟨rfl, rfl⟩)))
            go_ret
            refine ⟨ret_bool ?_, Hbb.out⟩
            have x1 := Hx1.out; have x2 := Hx2.out; have x3 := Hx3.out; have x4 := Hx4.out; have x5 := Hx5.out; have x6 := Hx6.out; have fn := Hfin.out
            clear Hx1 Hx2 Hx3 Hx4 Hx5 Hx6 Hfin Hq11 Hq12 Hq13 Hq14 Hq15 Hq16
            try simp at x1 x2 x3 x4 x5 x6
            first | (symm; rw [Bool.eq_false_iff]; intro hR; have hf := fn.1 hR; (try simp at hf) <;> omega) | (symm; rw [fn]; simp; omega)
          | true =>
            cases b4 with
            | false =>
              have ⟨Hq11, Hq12, Hq13, Hq14, Hq15, Hq16, Hx1, Hx2⟩ := hid8 q11 q12 q13 q14 q15 q16 x1 x2; clear q11 q12 q13 q14 q15 q16 x1 x2; have ⟨Hx3, Hx4, Hx5, Hx6, Hfin⟩ := hid5 x3 x4 x5 x6 fin; clear x3 x4 x5 x6 fin
              go_wp2_with (first | (go_at_call 71; ((with_reducible refine (Hq11.out).mono ?_); rintro e w_ ⟨rfl, rfl⟩)) | (go_at_call 71; ((with_reducible refine (Hq14.out).mono ?_); rintro e w_ ⟨rfl, rfl⟩)) | (go_at_call 71; ((with_reducible refine (Hq15.out).mono ?_); rintro e w_ ⟨rfl, rfl⟩)) | (go_at_call 71; ((with_reducible refine (Hq16.out).mono ?_); rintro e w_ ⟨rfl, rfl⟩)) | (go_at_call 72; ((with_reducible refine (Hq12.out).mono ?_); rintro e w_ ⟨rfl, rfl⟩)) | (go_at_call 72; ((with_reducible refine (Hq13.out).mono ?_); rintro e w_ ⟨rfl, rfl⟩)))
              go_ret
              refine ⟨ret_bool ?_, Hbb.out⟩
              have x1 := Hx1.out; have x2 := Hx2.out; have x3 := Hx3.out; have x4 := Hx4.out; have x5 := Hx5.out; have x6 := Hx6.out; have fn := Hfin.out
              clear Hx1 Hx2 Hx3 Hx4 Hx5 Hx6 Hfin Hq11 Hq12 Hq13 Hq14 Hq15 Hq16
              try simp at x1 x2 x3 x4 x5 x6
              first | (symm; rw [Bool.eq_false_iff]; intro hR; have hf := fn.1 hR; (try simp at hf) <;> omega) | (symm; rw [fn]; simp; omega)
            | true =>
              cases b5 with
              | false =>
                have ⟨Hq11, Hq12, Hq13, Hq14, Hq15, Hq16, Hx1, Hx2⟩ := hid8 q11 q12 q13 q14 q15 q16 x1 x2; clear q11 q12 q13 q14 q15 q16 x1 x2; have ⟨Hx3, Hx4, Hx5, Hx6, Hfin⟩ := hid5 x3 x4 x5 x6 fin; clear x3 x4 x5 x6 fin
                go_wp2_with (first | (go_at_call 71; ((with_reducible refine (Hq11.out).mono ?_); rintro e w_ ⟨rfl, rfl⟩)) | (go_at_call 71; ((with_reducible refine (Hq14.out).mono ?_); rintro e w_ ⟨rfl, rfl⟩)) | (go_at_call 71; ((with_reducible refine (Hq15.out).mono ?_); rintro e w_ ⟨rfl, rfl⟩)) | (go_at_call 71; ((with_reducible refine (Hq16.out).mono ?_); rintro e w_ ⟨rfl, rfl⟩)) | (go_at_call 72; ((with_reducible refine (Hq12.out).mono ?_); rintro e w_ ⟨rfl, rfl⟩)) | (go_at_call 72; ((with_reducible refine (Hq13.out).mono ?_); rintro e w_ ⟨rfl, rfl⟩)))
                go_ret
                refine ⟨ret_bool ?_, Hbb.out⟩
                have x1 := Hx1.out; have x2 := Hx2.out; have x3 := Hx3.out; have x4 := Hx4.out; have x5 := Hx5.out; have x6 := Hx6.out; have fn := Hfin.out
                clear Hx1 Hx2 Hx3 Hx4 Hx5 Hx6 Hfin Hq11 Hq12 Hq13 Hq14 Hq15 Hq16
                try simp at x1 x2 x3 x4 x5 x6
                first | (symm; rw [Bool.eq_false_iff]; intro hR; have hf := fn.1 hR; (try simp at hf) <;> omega) | (symm; rw [fn]; simp; omega)
              | true =>
                cases b6 with
                | false =>
                  have ⟨Hq11, Hq12, Hq13, Hq14, Hq15, Hq16, Hx1, Hx2⟩ := hid8 q11 q12 q13 q14 q15 q16 x1 x2; clear q11 q12 q13 q14 q15 q16 x1 x2; have ⟨Hx3, Hx4, Hx5, Hx6, Hfin⟩ := hid5 x3 x4 x5 x6 fin; clear x3 x4 x5 x6 fin
                  go_wp2_with (first | (go_at_call 71; ((with_reducible refine (Hq11.out).mono ?_); rintro e w_ ⟨rfl, rfl⟩)) | (go_at_call 71; ((with_reducible refine (Hq14.out).mono ?_); rintro e w_ ⟨rfl, rfl⟩)) | (go_at_call 71; ((with_reducible refine (Hq15.out).mono ?_); rintro e w_ ⟨rfl, rfl⟩)) | (go_at_call 71; ((with_reducible refine (Hq16.out).mono ?_); rintro e w_ ⟨rfl, rfl⟩)) | (go_at_call 72; ((with_reducible refine (Hq12.out).mono ?_); rintro e w_ ⟨rfl, rfl⟩)) | (go_at_call 72; ((with_reducible refine (Hq13.out).mono ?_); rintro e w_ ⟨rfl, rfl⟩)))
                  go_ret
                  refine ⟨ret_bool ?_, Hbb.out⟩
                  have x1 := Hx1.out; have x2 := Hx2.out; have x3 := Hx3.out; have x4 := Hx4.out; have x5 := Hx5.out; have x6 := Hx6.out; have fn := Hfin.out
                  clear Hx1 Hx2 Hx3 Hx4 Hx5 Hx6 Hfin Hq11 Hq12 Hq13 Hq14 Hq15 Hq16
                  try simp at x1 x2 x3 x4 x5 x6
                  first | (symm; rw [Bool.eq_false_iff]; intro hR; have hf := fn.1 hR; (try simp at hf) <;> omega) | (symm; rw [fn]; simp; omega)
                | true =>
                  by_cases hli : c.l = c.i
                  · have dli : (c.l != c.i) = false := by simp [hli]
                    have Hhli := Lib.hid hli; clear hli
                    have ⟨Hq11, Hq12, Hq13, Hq14, Hq15, Hq16, Hx1, Hx2⟩ := hid8 q11 q12 q13 q14 q15 q16 x1 x2; clear q11 q12 q13 q14 q15 q16 x1 x2; have ⟨Hx3, Hx4, Hx5, Hx6, Hfin⟩ := hid5 x3 x4 x5 x6 fin; clear x3 x4 x5 x6 fin
                    go_wp2_with (first | (go_at_call 71; ((with_reducible refine (Hq11.out).mono ?_); rintro e w_ ⟨rfl, rfl⟩)) | (go_at_call 71; ((with_reducible refine (Hq14.out).mono ?_); rintro e w_ ⟨rfl, rfl⟩)) | (go_at_call 71; ((with_reducible refine (Hq15.out).mono ?_); rintro e w_ ⟨rfl, rfl⟩)) | (go_at_call 71; ((with_reducible refine (Hq16.out).mono ?_); rintro e w_ ⟨rfl, rfl⟩)) | (go_at_call 72; ((with_reducible refine (Hq12.out).mono ?_); rintro e w_ ⟨rfl, rfl⟩)) | (go_at_call 72; ((with_reducible refine (Hq13.out).mono ?_); rintro e w_ ⟨rfl, rfl⟩)))
                    go_ret
                    refine ⟨ret_bool ?_, Hbb.out⟩
                    have x1 := Hx1.out; have x2 := Hx2.out; have x3 := Hx3.out; have x4 := Hx4.out; have x5 := Hx5.out; have x6 := Hx6.out; have fn := Hfin.out; have hli := Hhli.out
                    clear Hx1 Hx2 Hx3 Hx4 Hx5 Hx6 Hfin Hq11 Hq12 Hq13 Hq14 Hq15 Hq16
                    try simp at x1 x2 x3 x4 x5 x6
                    first | (symm; rw [Bool.eq_false_iff]; intro hR; have hf := fn.1 hR; (try simp at hf) <;> omega) | (symm; rw [fn]; simp; omega)
                  have dli : (c.l != c.i) = true := by simp [hli]
                  have ⟨Hq11, Hq12, Hq13, Hq14, Hq15, Hq16, Hx1, Hx2⟩ := hid8 q11 q12 q13 q14 q15 q16 x1 x2; clear q11 q12 q13 q14 q15 q16 x1 x2; have ⟨Hx3, Hx4, Hx5, Hx6, Hfin⟩ := hid5 x3 x4 x5 x6 fin; clear x3 x4 x5 x6 fin
                  go_wp2_with (first | (go_at_call 71; ((with_reducible refine (Hq11.out).mono ?_); rintro e w_ ⟨rfl, rfl⟩)) | (go_at_call 71; ((with_reducible refine (Hq14.out).mono ?_); rintro e w_ ⟨rfl, rfl⟩)) | (go_at_call 71; ((with_reducible refine (Hq15.out).mono ?_); rintro e w_ ⟨rfl, rfl⟩)) | (go_at_call 71; ((with_reducible refine (Hq16.out).mono ?_); rintro e w_ ⟨rfl, rfl⟩)) | (go_at_call 72; ((with_reducible refine (Hq12.out).mono ?_); rintro e w_ ⟨rfl, rfl⟩)) | (go_at_call 72; ((with_reducible refine (Hq13.out).mono ?_); rintro e w_ ⟨rfl, rfl⟩)))
                  go_ret
                  refine ⟨ret_bool ?_, Hbb.out⟩
                  have x1 := Hx1.out; have x2 := Hx2.out; have x3 := Hx3.out; have x4 := Hx4.out; have x5 := Hx5.out; have x6 := Hx6.out; have fn := Hfin.out
                  clear Hx1 Hx2 Hx3 Hx4 Hx5 Hx6 Hfin Hq11 Hq12 Hq13 Hq14 Hq15 Hq16
                  try simp at x1 x2 x3 x4 x5 x6
                  first | (symm; rw [Bool.eq_false_iff]; intro hR; have hf := fn.1 hR; (try simp at hf) <;> omega) | (symm; rw [fn]; simp; omega)
theorem cvalid_any (c : Crd) (hc : CFit c) (w : World) : Calls Tryz.prog 35 #[.agg c.cells.toArray] w fun e w' => e = .returned (.bool (cvB c)) ∧ Below w.heap.size w w' := by
 by_cases h1 : c.k = 1
 ·refine cvalid_kind c hc true 1 400 1 1000000000 0 0 (by rw [needK, if_pos h1]) (decide_eq_true (by omega)) w ?_
  rw [cvB_iff]; unfold baseP kindP; simp only [true_and]
  constructor <;> intro h <;> omega
 ·by_cases h2 : c.k = 2
  ·refine cvalid_kind c hc true 0 400 0 0 0 0 (by rw [needK, if_neg h1, if_pos h2]) (decide_eq_true (by omega)) w ?_
   rw [cvB_iff]; unfold baseP kindP; simp only [true_and]
   constructor <;> intro h <;> omega
  ·by_cases h3 : c.k = 3
   ·refine cvalid_kind c hc true 0 400 0 0 1 1000000 (by rw [needK, if_neg h1, if_neg h2, if_pos h3]) (decide_eq_true (by omega)) w ?_
    rw [cvB_iff]; unfold baseP kindP; simp only [true_and]
    constructor <;> intro h <;> omega
   ·refine cvalid_kind c hc false 0 0 0 0 0 0 (by rw [needK, if_neg h1, if_neg h2, if_neg h3]) (decide_eq_false (by omega)) w ?_
    rw [cvB_iff]; unfold kindP
    constructor
    ·intro h; omega
    ·intro h; exact absurd h.1 (by decide)
end
end Go.Proofs.YtclgncaghiinhaaGreatDoor
