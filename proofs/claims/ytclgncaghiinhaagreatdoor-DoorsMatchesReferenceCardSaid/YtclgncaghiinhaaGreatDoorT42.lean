/- Keeps, the helpers of innkeeperlaw37: kept, guest, right. -/
import Derived.OwnWalk
import Derived.Test.YtclgncaghiinhaaGreatDoorT33
import Derived.Test.YtclgncaghiinhaaGreatDoorT36
import Derived.Test.YtclgncaghiinhaaGreatDoorT37
import Derived.Test.YtclgncaghiinhaaGreatDoorT39
import Derived.Test.YtclgncaghiinhaaGreatDoorT40
import Derived.Test.YtclgncaghiinhaaGreatDoorT41
set_option linter.unusedSimpArgs false
set_option linter.unusedVariables false
set_option maxRecDepth 100000
namespace Go.Proofs.YtclgncaghiinhaaGreatDoor
open Go.RowKit
set_option maxHeartbeats 16000000 in
theorem rdlocks_self (A : Option Addr) (cp n : Nat) (Ps : List LkP) (B : Option Addr) (cq : Nat) (Qs : List LkP) (w : World) (hn : Ps.length = n) (hn9 : n ≤ 1000) (hq : Qs.map LkP.L = Ps.map LkP.L) (ha : Locks w A Ps) (hb : Locks w B Qs) :
  Calls Tryz.prog 11 #[.slice A n cp, .slice B n cq] w fun e w' => e = .returned (.bool true) ∧ Below w.heap.size w w' := by
 have hm : Qs.length = n := by
  have := congrArg List.length hq
  rw [List.length_map, List.length_map, hn] at this; exact this
 have ⟨Hha, Hhb, Hhn, Hhm, Hhq⟩ := hid5 ha hb hn hm hq; clear ha hb hn hm hq
 go_enter Tryz.func11, Tryz.ntmps11
 go_wp2_with fail
 go_loopw [5] (fun i wr => ∃ (j : Nat), j ≤ n ∧ i = .int .i64 j ∧ Below w.heap.size w wr) (fun i _ => n - (intOf i).toNat)
 case atStart => exact ⟨0, by omega, rfl, Below.refl _ _⟩
 case round =>
  obtain ⟨j, hj, rfl, hbw⟩ := hrel
  by_cases hlt : j < n
  ·obtain ⟨⟨L, A1, p1, B1, r1⟩, hP⟩ : ∃ P, Ps[j]? = some P := ⟨_, List.getElem?_eq_getElem (by rw [Hhn.out]; exact hlt)⟩
   obtain ⟨⟨M, A2, p2, B2, r2⟩, hQ⟩ : ∃ P, Qs[j]? = some P := ⟨_, List.getElem?_eq_getElem (by rw [Hhm.out]; exact hlt)⟩
   have eM : M = L := by
    have := congrArg (fun l => l[j]?) Hhq.out
    simp only [List.getElem?_map, hP, hQ, Option.map_some, Option.some.injEq] at this
    exact this
   subst eM
   obtain ⟨b, off, rfl, hbl, hok, hcell⟩ := (Hha.out.below hbw).at hP
   obtain ⟨b', off', rfl, hbl', hok', hcell'⟩ := (Hhb.out.below hbw).at hQ
   have f1 := hok.fx.few
   have f2 := hok.fy.few
   dsimp only at f1 f2
   have q := fun W (h : Below wr.heap.size wr W) => rlsame_self M A1 M.x.l.length p1 B1 M.y.l.length r1 A2 p2 B2 r2 rfl rfl (by omega) (by omega) W (hok.below h).a (hok.below h).b (hok'.below h).a (hok'.below h).b
   have c0 := hcell 0 _ rfl; have c1 := hcell 1 _ rfl; have c2 := hcell 2 _ rfl; have c3 := hcell 3 _ rfl; have c4 := hcell 4 _ rfl; have c5 := hcell 5 _ rfl; have c6 := hcell 6 _ rfl; have c7 := hcell 7 _ rfl; have c8 := hcell 8 _ rfl; have c9 := hcell 9 _ rfl; have c10 := hcell 10 _ rfl; have c11 := hcell 11 _ rfl
   have d0 := hcell' 0 _ rfl; have d1 := hcell' 1 _ rfl; have d2 := hcell' 2 _ rfl; have d3 := hcell' 3 _ rfl; have d4 := hcell' 4 _ rfl; have d5 := hcell' 5 _ rfl; have d6 := hcell' 6 _ rfl; have d7 := hcell' 7 _ rfl; have d8 := hcell' 8 _ rfl; have d9 := hcell' 9 _ rfl; have d10 := hcell' 10 _ rfl; have d11 := hcell' 11 _ rfl
   simp only [Nat.add_zero] at c0 d0
   clear hcell hok hcell' hok' f1 f2
   unfold Lk.cells at q
   dsimp only at c0 c1 c2 c3 c4 c5 c6 c7 c8 c9 c10 c11 d0 d1 d2 d3 d4 d5 d6 d7 d8 d9 d10 d11
   have g1 : (j : Int) < (n : Int) := by omega
   have g0 : (0 : Int) ≤ (j : Int) := by omega
   have hs := hbw.size
   have ⟨Hq, HhP, HhQ, Hhbw⟩ := hid4 q hP hQ hbw; clear q hP hQ hbw
   go_upto_region 6 with (fail)
   refine wp_region_held_drew (S := (fun W => (∀ b o, b < wr.heap.size → W.cell? ⟨b, o, none⟩ = wr.cell? ⟨b, o, none⟩) ∧ Below wr.heap.size wr W)) (by kernel_rfl) ?_ (fun hHeld => ?_)
   ·(try dsimp only); (first | (refine ext_mk ?_; exact belt))
   refine tq 0 (some 18) ?_
   (try simp only [apz])
   refine tq 1 (some 19) ?_
   (try simp only [apz])
   refine tq 2 (some 20) ?_
   (try simp only [apz])
   refine tq 3 (some 21) ?_
   (try simp only [apz])
   refine tq 4 (some 22) ?_
   (try simp only [apz])
   refine tq 5 (some 23) ?_
   (try simp only [apz])
   refine tq 6 (some 24) ?_
   (try simp only [apz])
   refine tq 7 (some 25) ?_
   (try simp only [apz])
   refine wpAnyH_ready (rs := [8]) (by kernel_rfl) (by simp) ?_
   refine AllReadyH.cons rfl (fun K hK => ?_) AllReadyH.nil
   go_simp
   (go_at_call 34; (with_reducible refine (Hq.out _ ?_).mono ?_); (focus (exact (And.right (by assumption : _ ∧ Below wr.heap.size wr _)))); rintro e w2 ⟨rfl, hbw2⟩; have gw2 := Below.trans (And.right (by assumption : _ ∧ Below wr.heap.size wr _)) (hbw2.mono (Below.size (And.right (by assumption : _ ∧ Below wr.heap.size wr _)))); have gsw2 := gw2.size; have hcf := bcell hbw2; have hcw2 := hcf.1; have hfw2 := hcf.2; have hsw2 := hbw2.size; (try simp only [World.size_alloc, World.heap_drewN, heap_drew] at hsw2); clear hbw2 hcf; (try have hzw2 : wr.heap.size < w2.heap.size := by omega))
   refine hK.out _ _ ?_ (fun hHeld => ?_)
   ·(try dsimp only); (first | (refine ext_mk ?_; exact belt))
   clear hK K
   (try simp only [apz])
   refine tq 9 (some 6) ?_
   (try simp only [apz])
   refine wpAnyH_done (by kernel_rfl) ?_ _
   have gF : Below wr.heap.size wr _ := And.right (by assumption)
   have gG := Hhbw.out.trans (gF.mono hs)
   clear c0 c1 c2 c3 c4 c5 c6 c7 c8 c9 c10 c11 d0 d1 d2 d3 d4 d5 d6 d7 d8 d9 d10 d11
   have ⟨HgF, HgG⟩ := hid2 gF gG; clear gF gG
   go_wp2_with fail
   go_roundw
   case rel => exact ⟨j + 1, by omega, by go_num, HgG.out⟩
   case measure => simp [intOf]; omega
  ·have g1 : ¬ (j : Int) < (n : Int) := by omega
   have Hhbw := Lib.hid hbw; clear hbw
   go_wp2_with fail
   go_ret
   exact ⟨rfl, Hhbw.out⟩
set_option maxHeartbeats 4000000 in
theorem rdlocks_any (A : Option Addr) (cp n : Nat) (Ps : List LkP) (hln : Ps.length = n) (hn : n ≤ 400) (w : World) (hl : Locks w A Ps) :
  Calls Tryz.prog 61 #[.slice A n cp] w fun e w' => e = .returned (.bool (lkpB Ps)) ∧ Below w.heap.size w w' := by
 generalize hR : lkpB Ps = R
 have h0 : R = lkpB (Ps.drop 0) := by rw [List.drop_zero]; exact hR.symm
 have g4 : ¬ (400 : Int) < (n : Int) := by omega
 have g5 : decide ((400 : Int) < (n : Int)) = false := decide_eq_false g4
 have ⟨Hhl, Hhln, HhR, Hh0⟩ := hid4 hl hln hR h0; clear hl hln hR h0
 go_enter Tryz.func61, Tryz.ntmps61
 go_wp2_with fail
 go_loopw [3] (fun i wr => ∃ (k : Nat), k ≤ n ∧ i = .int .i64 k ∧ R = lkpB (Ps.drop k) ∧ Below w.heap.size w wr) (fun i _ => n - (intOf i).toNat)
 case atStart => exact ⟨0, by omega, rfl, Hh0.out, Below.refl _ _⟩
 case round =>
  obtain ⟨k, hk, rfl, hRk, hb⟩ := hrel
  by_cases hlt : k < n
  ·obtain ⟨⟨L, A2, p, B, r⟩, hP⟩ : ∃ P, Ps[k]? = some P := ⟨_, List.getElem?_eq_getElem (by rw [Hhln.out]; exact hlt)⟩
   obtain ⟨b, off, rfl, hbl, hok, hcell⟩ := (Hhl.out.below hb).at hP
   rw [lkpB_drop hP] at hRk
   have q := rlvalid_any L A2 L.x.l.length p B L.y.l.length r wr hok.x hok.y
   have c0 := hcell 0 _ rfl; have c1 := hcell 1 _ rfl; have c2 := hcell 2 _ rfl; have c3 := hcell 3 _ rfl; have c4 := hcell 4 _ rfl; have c5 := hcell 5 _ rfl; have c6 := hcell 6 _ rfl; have c7 := hcell 7 _ rfl; have c8 := hcell 8 _ rfl; have c9 := hcell 9 _ rfl; have c10 := hcell 10 _ rfl; have c11 := hcell 11 _ rfl
   simp only [Nat.add_zero] at c0
   clear hcell hok
   unfold Lk.cells at q
   dsimp only at hRk c0 c1 c2 c3 c4 c5 c6 c7 c8 c9 c10 c11
   generalize lvB L = X at *
   have g1 : (k : Int) < (n : Int) := by omega
   have g0 : (0 : Int) ≤ (k : Int) := by omega
   have ⟨Hq, HhRk, HhP, Hhb⟩ := hid4 q hRk hP hb; clear q hRk hP hb
   go_wp2_with fail
   refine Hq.out.mono ?_
   rintro e w2 ⟨rfl, b2⟩
   have bb := Hhb.out.trans (b2.mono Hhb.out.size)
   clear c0 c1 c2 c3 c4 c5 c6 c7 c8 c9 c10 c11
   have ⟨Hb2, Hbb⟩ := hid2 b2 bb; clear b2 bb
   cases X with
   | true =>
    go_wp2_with fail
    go_roundw
    case rel => exact ⟨k + 1, by omega, by go_num, by rw [HhRk.out, Bool.true_and], Hbb.out⟩
    case measure => simp [intOf]; omega
   | false =>
    go_wp2_with fail
    go_ret
    exact ⟨ret_bool (by rw [HhRk.out]; simp), Hbb.out⟩
  ·have : Ps.drop k = [] := List.drop_eq_nil_of_le (by rw [Hhln.out]; omega)
   rw [this] at hRk
   have g1 : ¬ (k : Int) < (n : Int) := by omega
   have ⟨HhRk, Hhb, Hthis⟩ := hid3 hRk hb this; clear hRk hb this
   go_wp2_with fail
   go_ret
   exact ⟨ret_bool (by rw [HhRk.out]; rfl), Hhb.out⟩
/-- whether a showing is right, test by test -/
theorem wrg_tests (s : Sh4) (nl nc : Nat) : (!wrgD s.a s.b s.c s.d nl nc) = (timeB s.c && (decide (0 ≤ s.a) && decide (s.a < nl)) && (decide (0 ≤ s.b) && decide (s.b < nc)) && decide (0 ≤ s.d) && decide (s.d ≤ 3)) := by
 have e : decide (s.d < 4) = decide (s.d ≤ 3) := decide_eq_decide.2 (by omega)
 simp only [wrgD, withD, e]
 generalize timeB s.c = x1
 generalize decide (0 ≤ s.a) = x2
 generalize decide (s.a < (nl : Int)) = x3
 generalize decide (0 ≤ s.b) = x4
 generalize decide (s.b < (nc : Int)) = x5
 generalize decide (0 ≤ s.d) = x6
 generalize decide (s.d ≤ 3) = x7
 revert x1 x2 x3 x4 x5 x6 x7
 decide
set_option maxHeartbeats 16000000 in
theorem rshowing_any (s : Sh4) (nl nc : Nat) (w : World) :
  Calls Tryz.prog 62 #[.agg #[.int .i64 s.a, .int .i64 s.b, .int .i64 s.c, .int .i64 s.d], .int .i64 (nl : Int), .int .i64 (nc : Int)] w fun e w' => e = .returned (.bool (!wrgD s.a s.b s.c s.d nl nc)) ∧ Below w.heap.size w w' := by
 obtain ⟨w0, hw0⟩ : ∃ W, w.alloc (.cells #[.int .i64 s.a, .int .i64 s.b, .int .i64 s.c, .int .i64 s.d] 53) = W := ⟨_, rfl⟩
 have bb0 : Below w.heap.size w w0 := by rw [← hw0]; exact (Below.refl _ _).alloc (Nat.le_refl _) _
 have k0 : Blk w0 w.heap.size #[.int .i64 s.a, .int .i64 s.b, .int .i64 s.c, .int .i64 s.d] := by rw [← hw0]; exact blk_new rfl
 have q1 := fun W => (rTime_any s.c W).mono belowPost
 have et := wrg_tests s nl nc
 generalize (!wrgD s.a s.b s.c s.d nl nc) = R at *
 generalize timeB s.c = V1 at *
 obtain ⟨x2, h2⟩ : ∃ x, decide (0 ≤ s.a) = x := ⟨_, rfl⟩
 obtain ⟨x3, h3⟩ : ∃ x, decide (s.a < (nl : Int)) = x := ⟨_, rfl⟩
 obtain ⟨x4, h4⟩ : ∃ x, decide (0 ≤ s.b) = x := ⟨_, rfl⟩
 obtain ⟨x5, h5⟩ : ∃ x, decide (s.b < (nc : Int)) = x := ⟨_, rfl⟩
 obtain ⟨x6, h6⟩ : ∃ x, decide (0 ≤ s.d) = x := ⟨_, rfl⟩
 obtain ⟨x7, h7⟩ : ∃ x, decide (s.d ≤ 3) = x := ⟨_, rfl⟩
 rw [h2, h3, h4, h5, h6, h7] at et
 have ⟨Hhw0, Hbb0, Hk0, Hq1, Het⟩ := hid5 hw0 bb0 k0 q1 et; clear hw0 bb0 k0 q1 et
 go_enter Tryz.func62, Tryz.ntmps62
 go_upto_region 1 with (fail)
 rw [Hhw0.out]
 obtain ⟨y0, y1, y2, y3⟩ := at4_of Hk0.out
 have ly := (Hk0.out 0 _ rfl).lt
 go_wp2_with fail
 (with_reducible refine (Hq1.out _).mono ?_)
 rintro e w1 ⟨rfl, b1⟩
 have c1 : Below w0.heap.size w0 w1 := Below.trans belt (b1.mono omh)
 have s1 := c1.size
 have bb1 := Hbb0.out.trans (c1.mono Hbb0.out.size)
 have k1 := Hk0.out.below c1
 have ⟨Hb1, Hc1, Hbb1, Hk1⟩ := hid4 b1 c1 bb1 k1; clear b1 c1 bb1 k1
 clear ly y0 y1 y2 y3
 obtain ⟨y0, y1, y2, y3⟩ := at4_of Hk1.out
 have ly := (Hk1.out 0 _ rfl).lt
 cases x2
 ·cases x4
  ·cases V1
   ·go_wp2_with fail
    go_ret
    exact ⟨ret_bool (by rw [Het.out]; simp), Hbb1.out⟩
   ·go_wp2_with fail
    go_ret
    exact ⟨ret_bool (by rw [Het.out]; simp), Hbb1.out⟩
  ·cases V1
   ·go_wp2_with fail
    go_ret
    exact ⟨ret_bool (by rw [Het.out]; simp), Hbb1.out⟩
   ·go_wp2_with fail
    go_ret
    exact ⟨ret_bool (by rw [Het.out]; simp), Hbb1.out⟩
 ·cases x4
  ·cases V1
   ·go_wp2_with fail
    go_ret
    exact ⟨ret_bool (by rw [Het.out]; simp), Hbb1.out⟩
   ·cases x3
    ·go_wp2_with fail
     go_ret
     exact ⟨ret_bool (by rw [Het.out]; simp), Hbb1.out⟩
    ·go_wp2_with fail
     go_ret
     exact ⟨ret_bool (by rw [Het.out]; simp), Hbb1.out⟩
  ·cases V1
   ·go_wp2_with fail
    go_ret
    exact ⟨ret_bool (by rw [Het.out]; simp), Hbb1.out⟩
   ·cases x3
    ·go_wp2_with fail
     go_ret
     exact ⟨ret_bool (by rw [Het.out]; simp), Hbb1.out⟩
    ·cases x5
     ·go_wp2_with fail
      go_ret
      exact ⟨ret_bool (by rw [Het.out]; simp), Hbb1.out⟩
     ·cases x6
      ·go_wp2_with fail
       go_ret
       exact ⟨ret_bool (by rw [Het.out]; simp), Hbb1.out⟩
      ·go_wp2_with fail
       go_ret
       exact ⟨ret_bool (by rw [Het.out]; simp), Hbb1.out⟩
theorem noneW_drop' {nl nc : Nat} {l : List Sh4} {k : Nat} {s : Sh4} (h : l[k]? = some s) : noneW nl nc (l.drop k) = ((!wrgD s.a s.b s.c s.d nl nc) && noneW nl nc (l.drop (k + 1))) := noneW_drop h
set_option maxHeartbeats 8000000 in
theorem rform_any (A : Option Addr) (cp n : Nat) (Ps : List LkP) (X : Option Addr) (cx m : Nat) (cs : List Crd) (Y : Option Addr) (cy k : Nat) (ss : List Sh4) (w : World) (hn : Ps.length = n) (hm : cs.length = m) (hk : ss.length = k) (hn9 : n ≤ 100) (hm9 : m ≤ 1000) (hk9 : k ≤ 100)
  (hl : Locks w A Ps) (hcs : Cards w X cs) (hss : Shows w Y ss) :
  Calls Tryz.prog 31 #[.slice A n cp, .slice X m cx, .slice Y k cy] w fun e w' => e = .returned (.int .i64 (runN (Ps.map LkP.L) cs ss)) ∧ Below w.heap.size w w' := by
 have q1 := fun W (h : Below w.heap.size w W) => rdlocks_any A cp n Ps hn (by omega) W (hl.below h)
 have q2 := fun W (h : Below w.heap.size w W) => rccards_any X cx m cs hm (by omega) W (hcs.below h)
 have g1 : ¬ (500 : Int) < (k : Int) := by omega
 have d1 : decide ((500 : Int) < (k : Int)) = false := decide_eq_false g1
 obtain ⟨w0, hw0⟩ : ∃ W, w = W := ⟨_, rfl⟩
 have bb0 : Below w.heap.size w w0 := by rw [← hw0]; exact Below.refl _ _
 have e0 : runN (Ps.map LkP.L) cs ss = if (lkpB Ps && cdsB cs && noneW n m ss) = true then 0 else 1 := by rw [runN, runB_eq Ps cs ss n m hn hm]
 rw [e0]
 have hss0 := hss
 generalize lkpB Ps = V1 at *
 generalize cdsB cs = V2 at *
 generalize hV3 : noneW n m ss = V3 at *
 rw [hw0]
 rw [hw0] at hss0
 rw [hw0] at bb0
 have q1' := fun W (h : Below w0.heap.size w0 W) => q1 W (by rw [hw0]; exact h)
 have q2' := fun W (h : Below w0.heap.size w0 W) => q2 W (by rw [hw0]; exact h)
 clear q1 q2
 have ⟨Hq1', Hq2', Hbb0, Hhl, Hhcs, Hhss, Hhss0, Hhn⟩ := hid8 q1' q2' bb0 hl hcs hss hss0 hn; clear q1' q2' bb0 hl hcs hss hss0 hn; have ⟨Hhm, Hhk, Hhw0, He0, HhV3⟩ := hid5 hm hk hw0 e0 hV3; clear hm hk hw0 e0 hV3
 go_enter Tryz.func31, Tryz.ntmps31
 go_wp2_with fail
 (with_reducible refine (Hq1'.out _ ?_).mono ?_)
 ·exact (show Below w0.heap.size w0 _ from belt)
 rintro e w1 ⟨rfl, b1⟩
 have c1 : Below w0.heap.size w0 w1 := Below.trans belt (b1.mono omh)
 have s1 := c1.size
 have bb1 := Hbb0.out.trans (c1.mono Hbb0.out.size)
 have ⟨Hb1, Hc1, Hbb1⟩ := hid3 b1 c1 bb1; clear b1 c1 bb1
 go_wp2_with fail
 (with_reducible refine (Hq2'.out _ ?_).mono ?_)
 ·exact Hbb1.out.trans ((show Below w1.heap.size w1 _ from belt).mono Hbb1.out.size)
 rintro e w2 ⟨rfl, b2⟩
 have c2 : Below w1.heap.size w1 w2 := Below.trans belt (b2.mono omh)
 have s2 := c2.size
 have bb2 := Hbb1.out.trans (c2.mono Hbb1.out.size)
 have ⟨Hb2, Hc2, Hbb2⟩ := hid3 b2 c2 bb2; clear b2 c2 bb2
 cases V1
 ·go_wp2_with fail
  go_ret
  exact ⟨rfl, Hbb2.out⟩
 ·cases V2
  ·go_wp2_with fail
   go_ret
   exact ⟨rfl, Hbb2.out⟩
  ·go_wp2_with fail
   go_loopw [9] (fun i wr => ∃ (j : Nat), j ≤ k ∧ i = .int .i64 j ∧ V3 = noneW n m (ss.drop j) ∧ Below w0.heap.size w0 wr) (fun i _ => k - (intOf i).toNat)
   case atStart => exact ⟨0, by omega, rfl, by rw [List.drop_zero]; exact HhV3.out.symm, Hbb2.out⟩
   case round =>
    obtain ⟨j, hj, rfl, hRk, hb⟩ := hrel
    by_cases hlt : j < k
    ·obtain ⟨s, hs⟩ : ∃ s, ss[j]? = some s := ⟨_, List.getElem?_eq_getElem (by rw [Hhk.out]; exact hlt)⟩
     obtain ⟨b, off, rfl, hbl, c0, c1, c2, c3⟩ := (Hhss0.out.below hb).at hs
     rw [noneW_drop' hs] at hRk
     have q := rshowing_any s n m wr
     generalize (!wrgD s.a s.b s.c s.d n m) = X at *
     have i1 : (j : Int) < (k : Int) := by omega
     have i0 : (0 : Int) ≤ (j : Int) := by omega
     have hbs := hb.size
     have ⟨Hq, HhRk, Hhs, Hhb⟩ := hid4 q hRk hs hb; clear q hRk hs hb
     go_wp2_with fail
     refine Hq.out.mono ?_
     rintro e w2 ⟨rfl, b2⟩
     have bb := Hhb.out.trans (b2.mono hbs)
     clear c0 c1 c2 c3
     have ⟨Hb2, Hbb⟩ := hid2 b2 bb; clear b2 bb
     cases X with
     | true =>
      go_wp2_with fail
      go_roundw
      case rel => exact ⟨j + 1, by omega, by go_num, by rw [HhRk.out, Bool.true_and], Hbb.out⟩
      case measure => simp [intOf]; omega
     | false =>
      have e : V3 = false := by have := HhRk.out; simpa using this
      subst e
      go_wp2_with fail
      go_ret
      exact ⟨rfl, Hbb.out⟩
    ·have : ss.drop j = [] := List.drop_eq_nil_of_le (by rw [Hhk.out]; omega)
     rw [this] at hRk
     have i1 : ¬ (j : Int) < (k : Int) := by omega
     have e : V3 = true := hRk
     subst e
     have ⟨HhRk, Hhb, Hthis⟩ := hid3 hRk hb this; clear hRk hb this
     go_wp2_with fail
     go_ret
     exact ⟨rfl, Hhb.out⟩
theorem lkp_one (P : LkP) : ∀ u ∈ P.cells, u.oneCell' = true := fun u hu => by
 simp only [LkP.cells, Lk.cells, List.mem_cons, List.not_mem_nil, or_false] at hu
 rcases hu with rfl | rfl | rfl | rfl | rfl | rfl | rfl | rfl | rfl | rfl | rfl | rfl <;> rfl
def OwnL (w : World) (base : Nat) (A : Option Addr) (c : Nat) (l : List LkP) : Prop := OwnRows 48 12 LkP.cells w base A c l
/-- a row of one's own of locks, as a block -/
theorem OwnL.house {w : World} {base : Nat} {A : Option Addr} {c : Nat} {l : List LkP} (h : OwnL w base A c l) (hb : base ≤ w.heap.size) (ho : ∀ P ∈ l, P.Ok w) (hf : ∀ P ∈ l, ∀ g, base ≤ g → P.Far g) : ∃ g, base ≤ g ∧ (l ≠ [] → A = some ⟨g, 0, none⟩ ∧ g < w.heap.size) ∧ House g w l := by
 rcases h.2 with ⟨hv, hn⟩ | ⟨g, cap, cur, hv, hg, hh, hnc, hm, hs, ht⟩
 ·have : l = [] := List.eq_nil_of_length_eq_zero hn
  subst this
  exact ⟨w.heap.size, hb, fun h => absurd rfl h, ⟨(fun o v hv => by simp at hv), (fun P hP => by cases hP), (fun P hP => by cases hP)⟩⟩
 ·injection hv with h1 _ _
  refine ⟨g, hg, fun _ => ⟨h1, lt_of_block hh⟩, ⟨fun o v hv2 => ?_, ho, fun P hP => hf P hP g hg⟩⟩
  have hlo : o < l.length * 12 := by
   rcases Nat.lt_or_ge o (l.length * 12) with h3 | h3
   ·exact h3
   ·rw [Array.getElem?_eq_none (by simp [flat_len LkP.len]; exact h3)] at hv2; cases hv2
  refine ⟨lt_of_block hh, ?_, frozen_of_row _ _ _ _ _ hh⟩
  rw [cell_of_row _ _ _ _ _ _ hh]
  rw [List.getElem?_toArray, ← ht, List.getElem?_take_of_lt hlo] at hv2
  rw [← Array.getElem?_toList]; exact hv2
section
def OwnB (w : World) (base : Nat) (A : Option Addr) (c : Nat) (l : List Bool) : Prop := OwnRows 4 1 boolC w base A c l
theorem OwnB.bls {w : World} {base : Nat} {A : Option Addr} {c : Nat} {l : List Bool} (h : OwnB w base A c l) : Bls w A l := OwnRows.rows h boolC_len fun _ _ => rfl
section
variable {ops : Array Oper} {o : Oper} {a : Act} {Q : Exit → Act → World → Prop}
end
theorem bls_new (w : World) (b : Bool) (t : TypeId) (n : Nat) (hn : w.heap.size = n) : Bls (w.alloc (.cells #[.bool b] t)) (some ⟨n, 0, none⟩) [b] := bls_lit w [b] _ t n hn rfl
end
set_option maxHeartbeats 4000000 in
theorem rlkeeps_any (l : Lk) (A : Option Addr) (n p : Nat) (B : Option Addr) (m q : Nat) (w : World) (hx : SlotIs w A n l.x) (hy : SlotIs w B m l.y) :
  Calls Tryz.prog 65 #[.agg (l.cells A n p B m q).toArray] w fun e w' => e = .returned (.agg (if bestI l.x l.y = 1 then #[.int .i64 l.y.s, .int .i64 l.y.c, .slice B m q, .int .u64 l.y.u] else #[.int .i64 l.x.s, .int .i64 l.x.c, .slice A n p, .int .u64 l.x.u])) ∧ Below w.heap.size w w' := by
 obtain ⟨w0, hw0⟩ : ∃ W, (w.alloc (.cells (l.cells A n p B m q).toArray 48)).alloc (.cells #[.int .i64 0, .int .i64 0, .slice none 0 0, .int .u64 0] 45) = W := ⟨_, rfl⟩
 have bb0 : Below w.heap.size w w0 := by rw [← hw0]; exact ((Below.refl _ _).alloc (Nat.le_refl _) _).alloc (by simp) _
 have k0 : Blk w0 w.heap.size (l.cells A n p B m q).toArray := by rw [← hw0]; exact (blk_new rfl).alloc _
 have g0 : Blk w0 (w.heap.size + 1) #[.int .i64 0, .int .i64 0, .slice none 0 0, .int .u64 0] := by rw [← hw0]; exact blk_new (by simp)
 have q1 := rbest_any l.x l.y A n p B m q w0 (hx.below bb0) (hy.below bb0)
 have hI := best01 l.x l.y
 generalize bestI l.x l.y = I at *
 generalize bestB l.x l.y = T at *
 unfold Lk.cells at k0 hw0 ⊢
 have ⟨Hbb0, Hk0, Hg0, Hhw0, Hq1, Hhx, Hhy⟩ := hid7 bb0 k0 g0 hw0 q1 hx hy; clear bb0 k0 g0 hw0 q1 hx hy
 go_enter Tryz.func65, Tryz.ntmps65
 go_wp2_with fail
 rw [Hhw0.out]
 obtain ⟨y0, y1, y2, y3, y4, y5, y6, y7, y8, y9, y10, y11⟩ := at12_of Hk0.out
 go_wp2_with fail
 (with_reducible refine (Hq1.out).mono ?_)
 rintro e w1 ⟨rfl, b1⟩
 have c1 : Below w0.heap.size w0 w1 := Below.trans belt (b1.mono omh)
 have s1 := c1.size
 have bb1 := Hbb0.out.trans (c1.mono Hbb0.out.size)
 have k1 := Hk0.out.below c1
 have g1 := Hg0.out.below c1
 have ⟨Hb1, Hc1, Hbb1, Hk1, Hg1⟩ := hid5 b1 c1 bb1 k1 g1; clear b1 c1 bb1 k1 g1
 clear y0 y1 y2 y3 y4 y5 y6 y7 y8 y9 y10 y11
 obtain ⟨y0, y1, y2, y3, y4, y5, y6, y7, y8, y9, y10, y11⟩ := at12_of Hk1.out
 obtain ⟨z0, z1, z2, z3⟩ := at4_of Hg1.out
 obtain ⟨f0, f1, f2, f3⟩ := free4_of Hg1.out
 have ly := (Hk1.out 0 _ rfl).lt
 have lz := (Hg1.out 0 _ rfl).lt
 rcases hI with rfl | rfl
 ·have b2 : Below w.heap.size w (putL w1 (w.heap.size + 1) 0 [.int .i64 l.x.s, .int .i64 l.x.c, .slice A n p, .int .u64 l.x.u]) := putL_below (by omega) _ _ _ Hbb1.out
  simp only [putL, Nat.reduceAdd] at b2
  have Hb2 := Lib.hid b2; clear b2
  go_wp2_with fail
  refine bodyPost_ret (v := .agg #[.int .i64 l.x.s, .int .i64 l.x.c, .slice A n p, .int .u64 l.x.u]) (by simp [results, Tryz.results65, go_sem, *]) rfl ⟨rfl, Hb2.out⟩
 ·have b2 : Below w.heap.size w (putL w1 (w.heap.size + 1) 0 [.int .i64 l.y.s, .int .i64 l.y.c, .slice B m q, .int .u64 l.y.u]) := putL_below (by omega) _ _ _ Hbb1.out
  simp only [putL, Nat.reduceAdd] at b2
  have Hb2 := Lib.hid b2; clear b2
  go_wp2_with fail
  refine bodyPost_ret (v := .agg #[.int .i64 l.y.s, .int .i64 l.y.c, .slice B m q, .int .u64 l.y.u]) (by simp [results, Tryz.results65, go_sem, *]) rfl ⟨rfl, Hb2.out⟩
/-- Keeps, one slot -/
theorem rlkeeps_as (l : Lk) (A : Option Addr) (n p : Nat) (B : Option Addr) (m q : Nat) (w : World) (hx : SlotIs w A n l.x) (hy : SlotIs w B m l.y) :
  ∃ K t, SlotIs w K (keepS l).l.length (keepS l) ∧ ∀ W, Below w.heap.size w W → Calls Tryz.prog 65 #[.agg (l.cells A n p B m q).toArray] W fun e w' => e = .returned (.agg #[.int .i64 (keepS l).s, .int .i64 (keepS l).c, .slice K (keepS l).l.length t, .int .u64 (keepS l).u]) ∧ Below W.heap.size W w' := by
 have hn := hx.len
 have hm := hy.len
 subst hn hm
 by_cases h : bestI l.x l.y = 1
 ·have e : keepS l = l.y := by rw [keepS, if_pos h]
  rw [e]
  refine ⟨B, q, hy, fun W hW => ?_⟩
  have := rlkeeps_any l A _ p B _ q W (hx.below hW) (hy.below hW)
  rw [if_pos h] at this
  exact this
 ·have e : keepS l = l.x := by rw [keepS, if_neg h]
  rw [e]
  refine ⟨A, p, hx, fun W hW => ?_⟩
  have := rlkeeps_any l A _ p B _ q W (hx.below hW) (hy.below hW)
  rw [if_neg h] at this
  exact this
end Go.Proofs.YtclgncaghiinhaaGreatDoor
