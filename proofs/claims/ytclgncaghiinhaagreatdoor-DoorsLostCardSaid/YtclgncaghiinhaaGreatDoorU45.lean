/- Package doors: Run, where it goes through. -/
import Derived.OwnWalk
import Derived.BigQuiet
import Derived.Test.YtclgncaghiinhaaGreatDoorU44
set_option linter.unusedSimpArgs false
set_option linter.unusedVariables false
set_option maxRecDepth 100000
namespace Go.Proofs.YtclgncaghiinhaaGreatDoor
open Go.RowKit
section
attribute [local go_sem] Oper.semAt_some
theorem infoDoor : (Tryz.prog.info? 71).map (fun i => (i.zero, i.size, i.bytes)) = some (some (.agg LkP.zero.cells.toArray), 12, 128) := by kernel_rfl
theorem infoLock : (Tryz.prog.info? 48).map (fun i => (i.zero, i.size, i.bytes)) = some (some (.agg LkP.zero.cells.toArray), 12, 128) := by kernel_rfl
theorem infoBool : (Tryz.prog.info? 4).map (fun i => (i.zero, i.size, i.bytes)) = some (some (.bool false), 1, 1) := by kernel_rfl
theorem boolC_len (b : Bool) : (boolC b).length = 1 := rfl
theorem boolC_one (b : Bool) : ∀ u ∈ boolC b, u.oneCell' = true := fun u hu => by
 have : u = .bool b := by simpa [boolC] using hu
 rw [this]; rfl
theorem dcalls_of_marks {f : FuncId} {fn : Func} {c : Code} {args : Array Value} {w : World} {R : Ending → World → Prop} (hf : Tryz.prog.funcs[f]? = some fn) (hb : fn.body = some c)
  (h : c.wp Tryz.prog (bodyPostM Fence.wide 5 Tryz.prog fn R) { tmps := args ++ Array.replicate (fn.ntmps - args.size) undef, defers := [] } w) : Calls Tryz.prog f args w R :=
 (callsIn_wide (n := 5)).1 (callsIn_of_wp_marks hf hb trivial (wpIn_wide.2 h) rfl)
/-- locks that are filled in, one after the other -/
def fillP (Ps : List LkP) (k : Nat) : List LkP := Ps.take k ++ List.replicate (Ps.length - k) LkP.zero
theorem fillP_zero (Ps : List LkP) : fillP Ps 0 = List.replicate Ps.length LkP.zero := rfl
theorem fillP_all (Ps : List LkP) : fillP Ps Ps.length = Ps := by simp [fillP]
theorem fillP_at {Ps : List LkP} {k : Nat} (hk : k < Ps.length) : (fillP Ps k)[k]? = some LkP.zero := by
 unfold fillP
 rw [List.getElem?_append_right (by rw [List.length_take]; omega), List.length_take, List.getElem?_replicate, if_pos (by omega)]
theorem fillP_set {Ps : List LkP} {k : Nat} {P : LkP} (hP : Ps[k]? = some P) : (fillP Ps k).set k P = fillP Ps (k + 1) := by
 have hk := (List.getElem?_eq_some_iff.1 hP).1
 unfold fillP
 rw [List.set_append_right _ _ (by rw [List.length_take]; omega), List.length_take, List.take_add_one, hP, show k - min k Ps.length = 0 by omega, show Ps.length - k = (Ps.length - (k + 1)) + 1 by omega, List.replicate_succ, List.set_cons_zero, List.append_assoc]
 rfl
/-- what holds at the head of each round -/
structure RunSt (w : World) (base g hb ob BC n m : Nat) (A : Option Addr) (cp : Nat) (X : Option Addr) (cx : Nat) (cs : List Crd) (ls : List Lk) (pre : List Sh4) (W : World) : Prop where
 hs : W.cell? ⟨hb, 0, none⟩ = some (.slice (some ⟨g, 0, none⟩) n n)
 bc : W.cell? ⟨BC, 0, none⟩ = some (.slice X m cx)
 al : W.cell? ⟨w.heap.size, 0, none⟩ = some (.slice A n cp)
 lo : Below w.heap.size w W
 sz : base ≤ W.heap.size
 gd : ∀ s ∈ pre, GoodS ls.length cs.length s
 st : ∃ (Ps : List LkP) (O : Option Addr) (c : Nat), Ps.map LkP.L = runS cs ls (pre.map Sh4.shw) ∧ House g W Ps ∧ Cel W ob 0 (.slice O pre.length c) ∧ OwnRows 4 1 boolC W base O c (runO cs ls (pre.map Sh4.shw)) ∧ ∀ P ∈ Ps, P.Far ob ∧ ∀ r, blockOf O = some r → P.Far r
theorem RunSt.own {w : World} {base g hb ob BC n m : Nat} {A : Option Addr} {cp : Nat} {X : Option Addr} {cx : Nat} {cs : List Crd} {ls : List Lk} (hw : w.heap.size ≤ base) : OwnFrom base (fun (pre : List ShX) W => RunSt w base g hb ob BC n m A cp X cx cs ls (pre.map ShX.s) W) := fun pre W W' row h hg hr => by
 have t : Turned W W' row := ⟨hg, fun r e => (hr r e).2⟩
 obtain ⟨Ps, O, c, h1, h2, h3, h4, h5⟩ := h.st
 exact ⟨t.cell h.hs, t.cell h.bc, t.cell h.al, h.lo.trans ⟨hg.os, hg.tape, hg.output, hg.size, fun k hk => hg.block k (by have := h.lo.size; omega) (fun e => by have := (hr k e.symm).1; omega)⟩, Nat.le_trans h.sz hg.size, h.gd, Ps, O, c, h1, t.house h2, t.cel h3, t.own h4, h5⟩
theorem House.grownO {g : Nat} {row : Option Nat} {w w' : World} {Ps : List LkP} (h : House g w Ps) (hg : w.grownBy w' row) (hne : ∀ r, row = some r → g ≠ r) (hr : ∀ r, row = some r → ∀ P ∈ Ps, P.Far r) : House g w' Ps := by
 cases row with
 | none => exact h.below (below_of_grown_none hg)
 | some r => exact h.grown hg (hne r rfl) (hr r rfl)
theorem cel_grown {w w' : World} {row : Option Nat} {b o : Nat} {v : Value} (h : Cel w b o v) (hg : w.grownBy w' row) (hne : some b ≠ row) : Cel w' b o v :=
 ⟨Nat.lt_of_lt_of_le h.lt hg.size, hg.cell h.at hne, (World.frozen?_of_block (hg.block b h.lt hne)).trans h.free⟩
theorem shTrue_own (ss : List Sh4) (n₀ B : Nat) (pre : List ShX) : OwnFrom B (ShTrue ss n₀ pre) := fun x W W' row h hg hr => ⟨h.1, h.2.1, Turned.blk ⟨hg, fun r e => (hr r e).2⟩ h.2.2⟩
/-- a range over a function that tells, its variables assigned from two slots, walked plainly -/
theorem wp_range_told {α : Type} {g : Operand} {ps : Array Tmp} {assign body : Code} {Q : Exit → Act → World → Prop} {a : Act} {w : World} {gf : Nat} {lb : Array Value} (hg : a.eval g = .func (.func gf) #[] lb) (eg : ∀ args w, (callFunc gf args).run Tryz.prog w = .ok (.enter gf args) w)
  {encs : α → Array Value} {u : World} {S : List α → Prop} {Ex : List α → α → World → Prop} (hseq : SeqTold Fence.wide 4 Tryz.prog gf lb encs (Below u.heap.size) S Ex w) (hu : u.heap.size ≤ w.heap.size) (hps : ∀ x, (encs x).size = ps.size)
  (I : List α → World → Prop) (hI : OwnFrom w.heap.size I) (hE : ∀ pre, OwnFrom w.heap.size (Ex pre)) (h0 : I [] w) (f : Array Value → α → Array Value)
  (hassign : ∀ (l : Nat) (x : α) (W : World) (K : Act → World → Prop), K { tmps := f a.tmps x, defers := [] } W → assign.wpIn (Fence.wide.inRound l) 3 Tryz.prog (Exit.then K (fun _ _ _ => False)) { tmps := (ps.zip (encs x)).foldl (fun t (p, v) => t.setIfInBounds p v) a.tmps, defers := [] } W)
  (hbody : ∀ (l : Nat) (pre : List α) (x : α) (W : World), I pre W → Ex pre x W → body.wpIn (Fence.wide.inRound l) 3 Tryz.prog (toldPost w.heap.size (Below u.heap.size) I (pre ++ [x]) W) { tmps := f a.tmps x, defers := [] } W)
  (hdone : ∀ (D : Nat) (xs : List α) (W : World), w.heap.size ≤ D → S xs → I xs W → W.heap[D]? = some (.deferred (some [])) → Q .normal { a with defers := { target := .collected D, args := #[] } :: a.defers } W) :
  (Code.rangeFunc g ps assign body).wp Tryz.prog Q a w := by
 refine (wpIn_wide (n := 5)).1 ?_
 exact wpIn_rangeFunc_told (n := 5) rfl (by omega) hg trivial eg hseq (fun h k => h.trans k) (fun W l o o' hl _ _ _ => below_putObj o' (by omega)) (Below.refl _ _) hps I hI hE h0 (fun x => { tmps := f a.tmps x, defers := [] }) hassign hbody hdone
theorem keeps_row {B : Nat} {W W' : World} {row : Option Nat} (hg : W.grownBy W' row) (hr : ∀ r, row = some r → r < B ∨ ∃ cs t p, W.heap[r]? = some (.cells cs t p)) : KeepsFrom B W W' := ⟨hg.size, fun k o hB hk ho => by
 refine (hg.block k (Array.getElem?_eq_some_iff.1 hk).1 (fun e => ?_)).trans hk
 rcases hr k e.symm with h | ⟨cs, t, p, h⟩
 ·omega
 ·rw [hk] at h; cases h; cases ho⟩
theorem OwnRows.cellsAt {α : Type} {E : TypeId} {C : Nat} {cells : α → List Value} {w : World} {base : Nat} {A : Option Addr} {c : Nat} {l : List α} (h : OwnRows E C cells w base A c l) : ∀ r, blockOf A = some r → ∃ cs t p, w.heap[r]? = some (.cells cs t p) := fun r hr => by
 rcases h.2 with ⟨hv, _⟩ | ⟨g, cap, cur, hv, _, hh, _⟩
 ·injection hv with h1 _ _
  rw [h1] at hr; cases hr
 ·injection hv with h1 _ _
  rw [h1] at hr
  cases hr
  exact ⟨_, _, _, hh⟩
theorem runS_v {cs : List Crd} : ∀ (p : List Shw) {ls : List Lk}, AllV ls → (∀ s ∈ p, s.i < ls.length) → AllV (runS cs ls p)
 | [], _, h, _ => h
 | s :: r, ls, h, hp => runS_v r (oneS_v h (hp s List.mem_cons_self)) (fun x hx => by rw [oneS, List.length_set]; exact hp x (List.mem_cons_of_mem _ hx))
theorem lkD_at {ls : List Lk} {i : Nat} {l : Lk} (h : ls[i]? = some l) : lkD ls i = l := by
 unfold lkD; rw [List.getD_eq_getElem?_getD, h]; rfl
theorem cdD_at {cs : List Crd} {i : Nat} {l : Crd} (h : cs[i]? = some l) : cdD cs i = l := by
 unfold cdD; rw [List.getD_eq_getElem?_getD, h]; rfl
theorem run_snoc (cs : List Crd) (ls : List Lk) (pre : List Sh4) (s : Sh4) : runS cs ls ((pre ++ [s]).map Sh4.shw) = oneS cs (runS cs ls (pre.map Sh4.shw)) s.shw ∧ runO cs ls ((pre ++ [s]).map Sh4.shw) = runO cs ls (pre.map Sh4.shw) ++ [oneO cs (runS cs ls (pre.map Sh4.shw)) s.shw] := by
 rw [List.map_append, runS_append, runO_append]; exact ⟨rfl, rfl⟩
set_option maxRecDepth 100000 in
set_option maxHeartbeats 32000000 in
theorem drun_ok (A : Option Addr) (cp n : Nat) (Ps : List LkP) (X : Option Addr) (cx m : Nat) (cs : List Crd) (Y : Option Addr) (cy k : Nat) (ss : List Sh4) (w : World) (hn : Ps.length = n) (hm : cs.length = m) (hk : ss.length = k) (hn9 : n ≤ 100) (hm9 : m ≤ 1000) (hk9 : k ≤ 100)
  (hl : Locks w A Ps) (hcs : Cards w X cs) (hss : Shows w Y ss) (ht : Tab w) (hB : runB (Ps.map LkP.L) cs ss = true) :
  Calls Tryz.prog 9 #[.slice A n cp, .slice X m cx, .slice Y k cy] w (RunRes (runS cs (Ps.map LkP.L) (ss.map Sh4.shw)) (runO cs (Ps.map LkP.L) (ss.map Sh4.shw)) 0 w) := by
 obtain ⟨w0, hw0⟩ : ∃ W, (w.alloc (.cells #[.slice A n cp] 22)).alloc (.cells #[.slice X m cx] 23) = W := ⟨_, rfl⟩
 have bb0 : Below w.heap.size w w0 := by rw [← hw0]; exact ((Below.refl _ _).alloc (Nat.le_refl _) _).alloc (by simp) _
 have k0 : Blk w0 w.heap.size #[.slice A n cp] := by rw [← hw0]; exact (blk_new rfl).alloc _
 have j0 : Blk w0 (w.heap.size + 1) #[.slice X m cx] := by rw [← hw0]; exact blk_new (by simp)
 have z0 : w.heap.size + 1 < w0.heap.size := by rw [← hw0]; simp
 have q1 := fun W (h : Below w.heap.size w W) => dlcontains_any A cp n Ps hn (by omega) W (hl.below h) (ht.below h)
 have q2 := fun W (h : Below w.heap.size w W) => dcards_any X cx m cs hm (by omega) W (hcs.below h)
 have q3 := fun W (h : Below w.heap.size w W) (h1 : W.cell? ⟨w.heap.size, 0, none⟩ = some (.slice A n cp)) (h2 : W.cell? ⟨w.heap.size + 1, 0, none⟩ = some (.slice X m cx)) (h3 : w.heap.size + 1 < W.heap.size) => dwcontains_any Y cy k ss w.heap.size (w.heap.size + 1) A X n cp m cx hk (by omega) W (hss.below h) h1 h2 (by omega) h3
 have q4 := fun W => showings_any X Y m cx k cy W
 have hgd := run_good hB
 rw [runB_eq Ps cs ss n m hn hm] at hB
 simp only [Bool.and_eq_true] at hB
 rw [hB.1.1] at q1
 rw [hB.1.2] at q2
 rw [hB.2] at q3
 have g1 : ¬ (500 : Int) < (k : Int) := by omega
 have d1 : decide ((500 : Int) < (k : Int)) = false := decide_eq_false g1
 have g2 : ¬ (400 : Int) < (n : Int) := by omega
 have d2 : decide ((400 : Int) < (n : Int)) = false := decide_eq_false g2
 obtain ⟨i0, hi0, hz0, hz1, hz2⟩ := info_parts infoDoor
 obtain ⟨iL, hiL, hzL0, hzL1, hzL2⟩ := info_parts infoLock
 obtain ⟨iB, hiB, hzB0, hzB1, hzB2⟩ := info_parts infoBool
 have ⟨Hhw0, Hbb0, Hk0, Hj0, Hq1, Hq2, Hq3, Hq4⟩ := hid8 hw0 bb0 k0 j0 q1 q2 q3 q4; clear hw0 bb0 k0 j0 q1 q2 q3 q4; have ⟨Hhl, Hhcs, Hhss, Hht, HhB, Hhgd, Hhn, Hhm⟩ := hid8 hl hcs hss ht hB hgd hn hm; clear hl hcs hss ht hB hgd hn hm; have ⟨Hhk, Hhi0, Hhz0, Hhz1, Hhz2, HhiL, HhzL0, HhzL1⟩ := hid8 hk hi0 hz0 hz1 hz2 hiL hzL0 hzL1; clear hk hi0 hz0 hz1 hz2 hiL hzL0 hzL1; have ⟨HhzL2, HhiB, HhzB0, HhzB1, HhzB2⟩ := hid5 hzL2 hiB hzB0 hzB1 hzB2; clear hzL2 hiB hzB0 hzB1 hzB2
 refine dcalls_of_marks Tryz.func9 rfl ?_
 simp only [Tryz.ntmps9, List.size_toArray, List.length_cons, List.length_nil, Nat.reduceAdd, Nat.reduceSub, Array.replicate_succ, Array.replicate_zero, List.push_toArray, List.append_toArray, List.nil_append, List.cons_append]
 go_upto_region 1 with (fail)
 rw [Hhw0.out]
 have y0 := (Hk0.out 0 _ rfl).at
 have x0 := (Hj0.out 0 _ rfl).at
 go_wp2_with fail
 (with_reducible refine (Hq1.out _ ?_).mono ?_)
 ·exact Hbb0.out.trans ((show Below w0.heap.size w0 _ from belt).mono Hbb0.out.size)
 rintro e w1 ⟨rfl, b1⟩
 have c1 : Below w0.heap.size w0 w1 := Below.trans belt (b1.mono omh)
 have s1 := c1.size
 have bb1 := Hbb0.out.trans (c1.mono Hbb0.out.size)
 have k1 := Hk0.out.below c1
 have j1 := Hj0.out.below c1
 have ⟨Hb1, Hc1, Hbb1, Hk1, Hj1⟩ := hid5 b1 c1 bb1 k1 j1; clear b1 c1 bb1 k1 j1
 clear y0 x0
 have y0 := (Hk1.out 0 _ rfl).at
 have x0 := (Hj1.out 0 _ rfl).at
 go_wp2_with fail
 (with_reducible refine (Hq2.out _ ?_).mono ?_)
 ·exact Hbb1.out.trans ((show Below w1.heap.size w1 _ from belt).mono Hbb1.out.size)
 rintro e w2 ⟨rfl, b2⟩
 have c2 : Below w1.heap.size w1 w2 := Below.trans belt (b2.mono omh)
 have s2 := c2.size
 have bb2 := Hbb1.out.trans (c2.mono Hbb1.out.size)
 have k2 := Hk1.out.below c2
 have j2 := Hj1.out.below c2
 have ⟨Hb2, Hc2, Hbb2, Hk2, Hj2⟩ := hid5 b2 c2 bb2 k2 j2; clear b2 c2 bb2 k2 j2
 clear y0 x0
 have y0 := (Hk2.out 0 _ rfl).at
 have x0 := (Hj2.out 0 _ rfl).at
 have s12 := Hbb2.out.size
 go_wp2_with fail
 (with_reducible refine (Hq3.out _ ?_ ?_ ?_ ?_).mono ?_)
 ·exact Hbb2.out.trans ((show Below w2.heap.size w2 _ from belt).mono Hbb2.out.size)
 ·exact y0
 ·exact x0
 ·omega
 rintro e w3 ⟨rfl, b3⟩
 have c3 : Below w2.heap.size w2 w3 := Below.trans belt (b3.mono omh)
 have s3 := c3.size
 have bb3 := Hbb2.out.trans (c3.mono Hbb2.out.size)
 have k3 := Hk2.out.below c3
 have j3 := Hj2.out.below c3
 have ⟨Hb3, Hc3, Hbb3, Hk3, Hj3⟩ := hid5 b3 c3 bb3 k3 j3; clear b3 c3 bb3 k3 j3
 clear y0 x0
 have y0 := (Hk3.out 0 _ rfl).at
 have x0 := (Hj3.out 0 _ rfl).at
 have e43 : Tryz.prog.underlying 69 = some (.slice 71) := Tryz.underlying69
 go_wp2_with (at_make; refine wpList_make_full _ rfl (.tmp 40) (.tmp 40) 69 rfl w3.heap.size 71 i0 _ 12 Tryz.underlying69 Hhi0.out Hhz0.out Hhz1.out .i64 .i64 (n : Int) (n : Int) n rfl rfl rfl rfl (by rw [Hhz2.out]; omega) (by unfold maxLen; omega) (Nat.le_refl _) ?_)
 intro w4 own4 g4
 have d4 : Below w3.heap.size w3 w4 := (Below.refl _ _).grown g4 (Nat.le_refl _) (fun k e => by cases e)
 have zg : w3.heap.size < w4.heap.size := (own4.lt _ rfl).2
 have h4 := House.made own4
 obtain ⟨g, hg⟩ : ∃ g, w3.heap.size = g := ⟨_, rfl⟩
 obtain ⟨hb, hhb⟩ : ∃ b, w4.heap.size = b := ⟨_, rfl⟩
 have sw3 := Hbb3.out.size
 have zl : w.heap.size + 1 < w3.heap.size := by omega
 rw [hg] at h4 zg zl
 rw [hhb] at zg
 clear own4 g4 y0 x0
 obtain ⟨w5, hw5⟩ : ∃ W, w4.alloc (.cells #[.slice (some ⟨g, 0, none⟩) n n] 69) = W := ⟨_, rfl⟩
 have d5 : Below w3.heap.size w3 w5 := by rw [← hw5]; exact d4.alloc d4.size _
 have h5 : House g w5 (fillP Ps 0) := by rw [fillP_zero, Hhn.out, ← hw5]; exact h4.below ((Below.refl _ _).alloc (Nat.le_refl _) _)
 have b5 : Blk w5 hb #[.slice (some ⟨g, 0, none⟩) n n] := by rw [← hw5]; exact blk_new hhb
 have bb5 := Hbb3.out.trans (d5.mono sw3)
 have k5 := Hk3.out.below d5
 have j5 := Hj3.out.below d5
 have z5 := (b5 0 _ rfl).lt
 have ⟨Hd4, Hh4, Hd5, Hh5, Hb5, Hbb5, Hk5, Hj5⟩ := hid8 d4 h4 d5 h5 b5 bb5 k5 j5; clear d4 h4 d5 h5 b5 bb5 k5 j5; have ⟨Hhw5, Hhg, Hhhb⟩ := hid3 hw5 hg hhb; clear hw5 hg hhb
 rw [Hhg.out]
 go_upto_region 7 with (fail)
 rw [Hhhb.out]
 rw [Hhw5.out]
 have y0 := (Hk5.out 0 _ rfl).at
 go_wp2_with fail
 clear y0
 go_loopw [44] (fun i wr => ∃ j : Nat, j ≤ n ∧ i = .int .i64 j ∧ House g wr (fillP Ps j) ∧ w5.grownBy wr (some g)) (fun i _ => n - (intOf i).toNat)
 case atStart => exact ⟨0, by omega, rfl, Hh5.out, grown_refl _ _⟩
 case round =>
  obtain ⟨j, hj, rfl, hH, gr⟩ := hrel
  have szr := gr.size
  have br : Below w.heap.size w wr := Hbb5.out.grown gr Hbb5.out.size (fun k e => by cases e; omega)
  have hbr : wr.cell? ⟨hb, 0, none⟩ = some (.slice (some ⟨g, 0, none⟩) n n) := gr.cell (Hb5.out 0 _ rfl).at (by simp; omega)
  by_cases hlt : j < n
  ·obtain ⟨⟨L, A2, p, B, r⟩, hP⟩ : ∃ P, Ps[j]? = some P := ⟨_, List.getElem?_eq_getElem (by rw [Hhn.out]; exact hlt)⟩
   have hok0 : LkP.Ok ⟨L, A2, p, B, r⟩ w := by
    obtain ⟨_, _, _, _, h, _⟩ := Hhl.out.at hP
    exact h
   obtain ⟨b, off, rfl, hbl, hok, hcell⟩ := (Hhl.out.below br).at hP
   have c0 := hcell 0 _ rfl; have c1 := hcell 1 _ rfl; have c2 := hcell 2 _ rfl; have c3 := hcell 3 _ rfl; have c4 := hcell 4 _ rfl; have c5 := hcell 5 _ rfl; have c6 := hcell 6 _ rfl; have c7 := hcell 7 _ rfl; have c8 := hcell 8 _ rfl; have c9 := hcell 9 _ rfl; have c10 := hcell 10 _ rfl; have c11 := hcell 11 _ rfl
   simp only [Nat.add_zero] at c0
   dsimp only at c0 c1 c2 c3 c4 c5 c6 c7 c8 c9 c10 c11
   clear hcell
   have i1 : (j : Int) < (n : Int) := by omega
   have i0' : (0 : Int) ≤ (j : Int) := by omega
   obtain ⟨w7, hw7⟩ : ∃ W, wr.alloc (.cells (LkP.cells ⟨L, A2, p, B, r⟩).toArray 48) = W := ⟨_, rfl⟩
   have d7 : Below wr.heap.size wr w7 := by rw [← hw7]; exact (Below.refl _ _).alloc (Nat.le_refl _) _
   have h7 := hH.below d7
   have y7 : Blk w7 wr.heap.size (LkP.cells ⟨L, A2, p, B, r⟩).toArray := by rw [← hw7]; exact blk_new rfl
   have e7 := h7.at12 (fillP_at (by rw [Hhn.out]; exact hlt)) rfl
   have hF := h7.put (fillP_at (by rw [Hhn.out]; exact hlt)) (hok.below d7) (hok0.far (by omega))
   rw [fillP_set hP] at hF
   have gF := grown_then (grown_then gr (grown_of_below d7 (some g)) (.inl rfl)) (putL_grown (b := g) (LkP.cells ⟨L, A2, p, B, r⟩) w7 (j * 12)) (.inl rfl)
   have z7 := d7.size
   have hb7 := keepc d7 (by omega) hbr
   unfold LkP.cells Lk.cells at hw7 hF gF y7
   simp only [LkP.cells, Lk.cells, LkP.zero, Lk.zero, Slt.zero] at e7
   dsimp only at hw7 hF gF y7 e7
   simp only [putL, Nat.add_assoc, Nat.reduceAdd] at hF gF
   have ⟨HhH, Hgr, Hbr, HhP, Hhok0, Hhok, Hhw7, Hd7⟩ := hid8 hH gr br hP hok0 hok hw7 d7; clear hH gr br hP hok0 hok hw7 d7; have ⟨Hh7, Hy7, He7, HhF, HgF⟩ := hid5 h7 y7 e7 hF gF; clear h7 y7 e7 hF gF
   go_upto_region 10 with (fail)
   rw [Hhw7.out]
   clear hbr c0 c1 c2 c3 c4 c5 c6 c7 c8 c9 c10 c11
   obtain ⟨y0, y1, y2, y3, y4, y5, y6, y7, y8, y9, y10, y11⟩ := at12_of Hy7.out
   have v0 := (He7.out 0 _ rfl).at
   have v1 := (He7.out 1 _ rfl).at
   have v2 := (He7.out 2 _ rfl).at
   have v3 := (He7.out 3 _ rfl).at
   have v4 := (He7.out 4 _ rfl).at
   have v5 := (He7.out 5 _ rfl).at
   have v6 := (He7.out 6 _ rfl).at
   have v7 := (He7.out 7 _ rfl).at
   have v8 := (He7.out 8 _ rfl).at
   have v9 := (He7.out 9 _ rfl).at
   have v10 := (He7.out 10 _ rfl).at
   have v11 := (He7.out 11 _ rfl).at
   have f0 := (He7.out 0 _ rfl).free
   have f1 := (He7.out 1 _ rfl).free
   have f2 := (He7.out 2 _ rfl).free
   have f3 := (He7.out 3 _ rfl).free
   have f4 := (He7.out 4 _ rfl).free
   have f5 := (He7.out 5 _ rfl).free
   have f6 := (He7.out 6 _ rfl).free
   have f7 := (He7.out 7 _ rfl).free
   have f8 := (He7.out 8 _ rfl).free
   have f9 := (He7.out 9 _ rfl).free
   have f10 := (He7.out 10 _ rfl).free
   have f11 := (He7.out 11 _ rfl).free
   simp only [Nat.add_zero] at v0 f0
   have ly := (Hy7.out 0 _ rfl).lt
   have lv := (He7.out 0 _ rfl).lt
   go_wp2_with fail
   go_roundw
   case rel => exact ⟨j + 1, by omega, by go_num, HhF.out, HgF.out⟩
   case measure => simp [intOf]; omega
  ·have i1 : ¬ (j : Int) < (n : Int) := by omega
   have ej : n = j := by omega
   subst ej
   rw [show fillP Ps n = Ps by rw [← Hhn.out]; exact fillP_all Ps] at hH
   obtain ⟨w7, hw7⟩ : ∃ W, wr.alloc (.cells #[.slice none 0 0] 31) = W := ⟨_, rfl⟩
   obtain ⟨ob, hob⟩ : ∃ b, wr.heap.size = b := ⟨_, rfl⟩
   have d7 : Below wr.heap.size wr w7 := by rw [← hw7]; exact (Below.refl _ _).alloc (Nat.le_refl _) _
   have h7 := hH.below d7
   have o7 : Blk w7 ob #[.slice none 0 0] := by rw [← hw7]; exact blk_new hob
   have hb7 := keepc d7 (by omega) hbr
   have bb7 := br.trans (d7.mono br.size)
   have k7 : Blk w7 w.heap.size #[.slice A n cp] := Blk.below (fun o v hv => (by
    have := Hk5.out o v hv
    have hlt := this.lt
    exact ⟨by omega, gr.cell this.at (by simp; omega), (World.frozen?_of_block (gr.block _ this.lt (by simp; omega))).trans this.free⟩)) d7
   have j7 : Blk w7 (w.heap.size + 1) #[.slice X m cx] := Blk.below (fun o v hv => (by
    have := Hj5.out o v hv
    have hlt := this.lt
    exact ⟨by omega, gr.cell this.at (by simp; omega), (World.frozen?_of_block (gr.block _ this.lt (by simp; omega))).trans this.free⟩)) d7
   have ⟨HhH, Hgr, Hbr, Hhw7, Hd7, Hh7, Ho7, Hbb7⟩ := hid8 hH gr br hw7 d7 h7 o7 bb7; clear hH gr br hw7 d7 h7 o7 bb7; have ⟨Hk7, Hj7⟩ := hid2 k7 j7; clear k7 j7
   clear hbr
   go_upto_region 13 with (fail)
   rw [Hhw7.out]
   have x0 := (Hj7.out 0 _ rfl).at
   have s7 := Hd7.out.size
   have z7 := (Ho7.out 0 _ rfl).lt
   go_wp2_with fail
   (with_reducible refine (Hq4.out _).mono ?_)
   rintro e w8 ⟨rfl, b8, cS8, cB8, s8⟩
   clear x0
   have h8 := Hh7.out.below b8
   have o8 := Ho7.out.below b8
   have hb8 := keepc b8 (by omega) hb7
   have bb8 := Hbb7.out.trans (b8.mono Hbb7.out.size)
   have k8 := Hk7.out.below b8
   have far0 : ∀ P ∈ Ps, P.Far ob ∧ ∀ r, blockOf none = some r → P.Far r := fun P hP => by
    obtain ⟨i, hi, he⟩ := List.mem_iff_getElem.1 hP
    obtain ⟨_, _, _, _, hh, _⟩ := Hhl.out.at (List.getElem?_eq_some_iff.2 ⟨hi, he⟩)
    exact ⟨hh.far (by omega), fun r e => by cases e⟩
   have it := showings_told 4 (by omega) (w7.heap.size + 1) w7.heap.size Y cy k ss Hhk.out (by omega) w w8 bb8 Hhss.out (by omega) cS8
   clear hb7
   have ⟨Hh8, Ho8, Hbb8, Hk8, Hit, Hb8, HcS8, Hfar0⟩ := hid8 h8 o8 bb8 k8 it b8 cS8 far0; clear h8 o8 bb8 k8 it b8 cS8 far0
   go_wp2_with fail
   refine wp_range_told (gf := 58) rfl (enters_of Tryz.func58 (by kernel_rfl) rfl) Hit.out (by have := Hbb8.out.size; omega) (fun _ => rfl)
    (fun pre W => RunSt w w8.heap.size g hb ob w7.heap.size n m A cp X cx cs (Ps.map LkP.L) (pre.map ShX.s) W) (RunSt.own (by have := Hbb8.out.size; omega)) (fun pre => shTrue_own _ _ _ _) ⟨hb8, cB8, (Hk8.out 0 _ rfl).at, Hbb8.out, Nat.le_refl _, (fun s hs => by cases hs), Ps, none, 0, rfl, Hh8.out, Ho8.out 0 _ rfl, OwnRows.nil _ _ _ _ _, Hfar0.out⟩
    (fun T x => (((T.setIfInBounds 58 (.int .i64 x.s.a)).setIfInBounds 59 (.func (.func 59) #[] #[.pointer (some ⟨w7.heap.size, 0, none⟩), .pointer (some ⟨x.B, 0, none⟩)])).setIfInBounds 14 (.int .i64 x.s.a)).setIfInBounds 15 (.func (.func 59) #[] #[.pointer (some ⟨w7.heap.size, 0, none⟩), .pointer (some ⟨x.B, 0, none⟩)])) ?assign ?body ?done
   case assign =>
    intro l x W K hK
    simp only [shEnc, List.zip_toArray, List.zip_cons_cons, List.zip_nil_right, Array.foldl_toList, List.foldl_toArray', List.foldl_cons, List.foldl_nil, List.setIfInBounds_toArray, List.set_cons_zero, List.set_cons_succ] at hK ⊢
    gi_wp2_with fail
    exact hK
   case body =>
    rintro l pre ⟨BX, sa, sb, sc, sd⟩ W ⟨hs, bc, al, lo, sz, gd, Qs, O, c, e1, e2, e3, e4, e5⟩ ⟨hx1, hx2, hx3⟩
    dsimp only at hx1 hx2 hx3 ⊢
    simp only [List.setIfInBounds_toArray, List.set_cons_zero, List.set_cons_succ]
    have g0 := Hhgd.out.2.2 ⟨sa, sb, sc, sd⟩ (List.mem_of_getElem? hx1)
    have ga0 := g0.a0; have ga1 := g0.a1; have gb0 := g0.b0; have gb1 := g0.b1
    dsimp only at ga0 ga1 gb0 gb1
    rw [List.length_map, Hhn.out] at ga1
    rw [Hhm.out] at gb1
    obtain ⟨i, hi⟩ : ∃ i : Nat, sa = (i : Int) := ⟨sa.toNat, by omega⟩
    obtain ⟨j', hj⟩ : ∃ i : Nat, sb = (i : Int) := ⟨sb.toNat, by omega⟩
    subst hi hj
    have hin : i < n := by omega
    have hjm : j' < m := by omega
    have lpre : pre.length < k := by rw [← Hhk.out]; exact (List.getElem?_eq_some_iff.1 hx1).1
    have lQs : Qs.length = n := by
     have := congrArg List.length e1
     rw [List.length_map, runS_len, List.length_map, Hhn.out] at this; exact this
    obtain ⟨⟨L, A2, p, B, r⟩, hQ⟩ : ∃ P, Qs[i]? = some P := ⟨_, List.getElem?_eq_getElem (by rw [lQs]; exact hin)⟩
    obtain ⟨cd, hcd⟩ : ∃ c, cs[j']? = some c := ⟨_, List.getElem?_eq_getElem (by rw [Hhm.out]; exact hjm)⟩
    have hLk : lkD (runS cs (Ps.map LkP.L) ((pre.map ShX.s).map Sh4.shw)) i = L := lkD_at (by rw [← e1, List.getElem?_map, hQ]; rfl)
    have hCd := cdD_at hcd
    have hv : lvB L = true := by
     have := runS_v (cs := cs) ((pre.map ShX.s).map Sh4.shw) Hhgd.out.1 (fun s hs => by
      obtain ⟨x, hx, rfl⟩ := List.mem_map.1 hs
      have a0 := (gd x hx).a0; have a1 := (gd x hx).a1
      show x.a.toNat < _
      omega) i (by rw [runS_len, List.length_map, Hhn.out]; exact hin)
     rwa [hLk] at this
    obtain ⟨rs1, rs2⟩ := run_snoc cs (Ps.map LkP.L) (pre.map ShX.s) ⟨(i : Int), (j' : Int), sc, sd⟩
    have es : Sh4.shw ⟨(i : Int), (j' : Int), sc, sd⟩ = ⟨i, j', sc, sd⟩ := by simp [Sh4.shw]
    rw [es] at rs1 rs2
    simp only [oneS, oneO, hLk, hCd] at rs1 rs2
    have szl := lo.size
    have zo := e3.lt
    have zW : w7.heap.size < W.heap.size := by omega
    have bxg : BX ≠ g := by omega
    have q := fun W' (h : Below W.heap.size W W') => dsh_any g i L A2 p B r Qs w7.heap.size BX X m cx cs ⟨(i : Int), (j' : Int), sc, sd⟩ j' cd w W' (e2.below h) hQ hv (lo.trans (h.mono szl)) (by omega) Hht.out (keepc h zW bc) (by have := h.size; omega) (by omega) Hhcs.out Hhm.out (by omega) (hx3.below h) bxg rfl hcd
    dsimp only at q
    have e6 := e5 _ (List.mem_of_getElem? hQ)
    have eset : (Qs.map LkP.L).set i (stp L cd sc sd).1 = runS cs (Ps.map LkP.L) ((pre.map ShX.s ++ [(⟨(i : Int), (j' : Int), sc, sd⟩ : Sh4)]).map Sh4.shw) := by rw [rs1, e1]
    have lro : (runO cs (Ps.map LkP.L) ((pre.map ShX.s).map Sh4.shw)).length = pre.length := by rw [runO_len, List.length_map, List.length_map]
    have gd2 : ∀ s ∈ pre.map ShX.s ++ [⟨(i : Int), (j' : Int), sc, sd⟩], GoodS (Ps.map LkP.L).length cs.length s := fun s hs => by
     rcases List.mem_append.1 hs with h | h
     ·exact gd s h
     ·rw [List.mem_singleton] at h; rw [h]; exact g0
    generalize (stp L cd sc sd).2 = OZ at *
    generalize (stp L cd sc sd).1 = LZ at *
    obtain ⟨RO, hRO⟩ : ∃ l, runO cs (Ps.map LkP.L) ((pre.map ShX.s).map Sh4.shw) = l := ⟨_, rfl⟩
    rw [hRO] at rs2 e4 lro
    rw [List.length_map] at e3
    obtain ⟨N, hN⟩ : ∃ N, pre.length = N := ⟨_, rfl⟩
    rw [hN] at e3 lro lpre
    have o3 := e3.at
    have i1' : (i : Int) < (n : Int) := by omega
    have i0' : (0 : Int) ≤ (i : Int) := by omega
    have hbne : hb ≠ g := by omega
    have hobg : ob ≠ g := by omega
    have hobb : ob ≠ hb := by omega
    have zhb : hb < W.heap.size := by omega
    have h58 := s8
    clear g0 ga0 ga1 gb0 gb1 es rs1 lQs hLk hCd
    have ⟨Hbc, Hal, Hlo, Hgd, He1, He2, He3, He4⟩ := hid8 bc al lo gd e1 e2 e3 e4; clear bc al lo gd e1 e2 e3 e4; have ⟨He5, He6, Hhx1, Hhx2, Hhx3, HhQ, Hhcd, Hhv⟩ := hid8 e5 e6 hx1 hx2 hx3 hQ hcd hv; clear e5 e6 hx1 hx2 hx3 hQ hcd hv; have ⟨Hrs2, Hq, Heset, Hlro, Hgd2, HhRO, HhN⟩ := hid7 rs2 q eset lro gd2 hRO hN; clear rs2 q eset lro gd2 hRO hN
    gi_wp2_with fail
    refine wpIn_region_plain (S := (fun W' => W'.cell? ⟨hb, 0, none⟩ = some (.slice (some ⟨g, 0, none⟩) n n))) (by rintro ⟨a, w', h⟩; exact absurd h.1 (by simp)) (by kernel_rfl) (by kernel_rfl) ?_ (fun hHeld => ?_)
    ·exact hs
    refine tq 1 (some 61) ?_
    (try simp only [apz])
    refine tq 2 (some 62) ?_
    (try simp only [apz])
    refine tq 3 (some 63) ?_
    (try simp only [apz])
    refine tq 4 (some 64) ?_
    (try simp only [apz])
    refine wpAnyH_ready (rs := [0, 5]) (by kernel_rfl) (by simp) ?_
    refine AllReadyH.cons rfl (fun K hK => ?_) (AllReadyH.cons rfl (fun K hK => ?_) AllReadyH.nil)
    ·go_simp
     refine hK.out _ _ ?_ (fun hHeld => ?_)
     ·(try dsimp only); assumption
     clear hK K
     (try simp only [apz])
     refine wpAnyH_ready (rs := [5]) (by kernel_rfl) (by simp) ?_
     refine AllReadyH.cons rfl (fun K hK => ?_) AllReadyH.nil
     go_simp
     go_at_call 59
     (with_reducible refine (Hq.out _ ?_).mono ?_)
     ·exact belt
     rintro e w2 ⟨rfl, P2, hP2, hH2, gx, hfx⟩
     have gz : W.grownBy w2 (some g) := grown_then (grown_of_below (show Below W.heap.size W _ from belt) _) gx (.inl rfl)
     have sz2 := gz.size
     have hb2 := gz.cell hs (fun e => hbne (Option.some.inj e))
     have ob2 := cel_grown He3.out gz (fun e => hobg (Option.some.inj e))
     have ow2 := He4.out.kept gz (by
      by_cases hO : blockOf O = none
      ·exact .inl hO
      ·refine .inr fun e => ?_
       have := (He4.out.lt g e).1
       omega)
     have o2 := ob2.at
     refine hK.out _ _ ?_ (fun hHeld => ?_)
     ·(try dsimp only); exact hb2
     clear hK K
     (try simp only [apz])
     refine wpAnyH_ready (rs := [6]) (by kernel_rfl) (by simp) ?_
     refine AllReadyH.cons rfl (fun K hK => ?_) AllReadyH.nil
     go_simp
     refine hK.out _ _ ?_ (fun hHeld => ?_)
     ·(try dsimp only); exact keepc ((Below.refl _ _).alloc (Nat.le_refl _) _) (by omega) hb2
     clear hK K
     (try simp only [apz])
     refine wpAnyH_ready (rs := [7]) (by kernel_rfl) (by simp) ?_
     refine AllReadyH.cons rfl (fun K hK => ?_) AllReadyH.nil
     refine step_app_gen (At := BlAt) _ (by rfl) (.tmp 60) (.tmp 66) 31 (by rfl) iB _ 1 Tryz.underlying31 HhiB.out HhzB0.out HhzB1.out HhzB2.out rfl (by decide) boolC_len boolC_one (fun _ _ h => h) N Hlro.out (by rfl) (ow2.alloc _) (some ⟨w2.heap.size, 0, none⟩) 1 1 [OZ] rfl (by rfl) (by exact rows_new1 (At := BlAt) w2 OZ _ _ _ rfl rfl rfl) (by unfold maxLen; omega) (by omega) (by simp; omega) ?_
     intro O9 c9 w9 ow9 gr9 ho9
     have sz9 : w2.heap.size ≤ w9.heap.size := by have := gr9.size; simp only [World.size_alloc] at this; omega
     have rne : ∀ b, b < w8.heap.size → some b ≠ blockOf O := fun b hb0 e => by
      have := (ow2.lt b e.symm).1
      omega
     have hb9 := gr9.cell (keepc ((Below.refl _ _).alloc (Nat.le_refl _) _) (by omega) hb2) (rne hb (by omega))
     have ob9 := cel_grown (ob2.alloc (.cells #[.bool OZ] 4)) gr9 (rne ob (by omega))
     have o9 := ob9.at
     have f9 := ob9.free
     have z9 := ob9.lt
     refine hK.out _ _ ?_ (fun hHeld => ?_)
     ·(try dsimp only); exact hb9
     clear hK K
     (try simp only [apz])
     refine wpAnyH_ready (rs := [8]) (by kernel_rfl) (by simp) ?_
     refine AllReadyH.cons rfl (fun K hK => ?_) AllReadyH.nil
     go_simp
     refine hK.out _ _ ?_ (fun hHeld => ?_)
     ·(try dsimp only); first | exact hb9 | (rw [World.cell?_setCell_other _ _ _ _ (by simp only [ne_eq, Addr.mk.injEq, and_true, not_and]; omega)]; exact hb9)
     clear hK K
     (try simp only [apz])
     refine wpAnyH_done (by kernel_rfl) ?_ _
     have hH3 := hH2.below ((Below.refl _ _).alloc (Nat.le_refl _) (.cells #[.bool OZ] 4))
     have hmem : ∀ Q ∈ Qs.set i P2, Q = P2 ∨ Q ∈ Qs := fun Q hQ => by
      rcases List.mem_or_eq_of_mem_set hQ with h1 | h1
      ·exact .inr h1
      ·exact .inl h1
     have farO : ∀ r, blockOf O = some r → ∀ Q ∈ Qs.set i P2, Q.Far r := fun r e Q hQ => by
      rcases hmem Q hQ with rfl | h
      ·exact hfx r (by have := (He4.out.lt r e).2; simpa using this) (He6.out.2 r e)
      ·exact (He5.out Q h).2 r e
     have farb : ∀ Q ∈ Qs.set i P2, Q.Far ob := fun Q hQ => by
      rcases hmem Q hQ with rfl | h
      ·exact hfx ob (by simpa using zo) He6.out.1
      ·exact (He5.out Q h).1
     have hH9 := (hH3.grownO gr9 (fun r e h => by subst h; exact rne g (by omega) e.symm) farO).grown (grown_set (grown_refl w9 (some ob)) 0 (.slice O9 (N + 1) c9)) (fun h => hobg h.symm) farb
     have gs := grown_set (grown_refl w9 (some ob)) 0 (.slice O9 (N + 1) c9)
     have far9 : ∀ Q ∈ Qs.set i P2, Q.Far ob ∧ ∀ r, blockOf O9 = some r → Q.Far r := fun Q hQ => ⟨farb Q hQ, fun r e => by
      rcases ho9 with h | h
      ·exact farO r (by rw [← h]; exact e) Q hQ
      ·rw [h] at e
       cases e
       exact (hH3.ok Q hQ).far (Nat.le_refl _)⟩
     have low : Below w.heap.size W (w9.setCell ⟨ob, 0, none⟩ (.slice O9 (N + 1) c9)) := (((Below.refl w.heap.size W).grown gz szl (fun k e => by cases e; omega)).alloc (by omega) (.cells #[.bool OZ] 4)).trans (((Below.refl w.heap.size _).grown gr9 (by simp; omega) (fun k e => by have := (ow2.lt k e).1; omega)).setCell (by simp; omega) _)
     have ke : KeepsFrom w8.heap.size W (w9.setCell ⟨ob, 0, none⟩ (.slice O9 (N + 1) c9)) := (((keeps_row gz (fun r e => by cases e; exact .inl (by omega))).trans (keeps_row (World.grownBy_alloc w2 (.cells #[.bool OZ] 4) none) (fun r e => by cases e))).trans (keeps_row gr9 (fun r e => .inr ((ow2.alloc _).cellsAt r e)))).trans ((KeepsOthers.setCell w9 ⟨ob, 0, none⟩ (.slice O9 (N + 1) c9)).from _)
     have oset : ∀ b v, b ≠ ob → w9.cell? ⟨b, 0, none⟩ = some v → (w9.setCell ⟨ob, 0, none⟩ (.slice O9 (N + 1) c9)).cell? ⟨b, 0, none⟩ = some v := fun b v hb0 h => by
      rw [World.cell?_setCell_other _ _ _ _ (by simp only [ne_eq, Addr.mk.injEq, and_true, not_and]; exact fun h => hb0 h.symm)]; exact h
     have keepA : ∀ b v, b < w8.heap.size → b ≠ g → b ≠ ob → W.cell? ⟨b, 0, none⟩ = some v → (w9.setCell ⟨ob, 0, none⟩ (.slice O9 (N + 1) c9)).cell? ⟨b, 0, none⟩ = some v := fun b v h1 h2 h3 h => oset b v h3 (gr9.cell (keepc ((Below.refl _ _).alloc (Nat.le_refl _) _) (by omega) (gz.cell h (fun e => h2 (Option.some.inj e)))) (rne b h1))
     refine ⟨rfl, ke, low, keepA hb _ (by omega) hbne (fun h => hobb h.symm) hs, keepA w7.heap.size _ (by omega) (by omega) (by omega) Hbc.out, keepA w.heap.size _ (by omega) (by omega) (by omega) Hal.out, Hlo.out.trans low, by simp; omega, ?_, Qs.set i P2, O9, c9, ?_, hH9, ?_, ?_, far9⟩
     ·rw [List.map_append]; exact Hgd2.out
     ·rw [List.map_set, hP2, Heset.out]; exact congrArg (fun z => runS cs (Ps.map LkP.L) (z.map Sh4.shw)) (List.map_append (f := ShX.s) (l₁ := pre) (l₂ := [⟨BX, ⟨(i : Int), (j' : Int), sc, sd⟩⟩])).symm
     ·rw [List.map_append, List.length_append, List.length_map, HhN.out]; exact ob9.same _
     ·rw [List.map_append]
      have := Hrs2.out
      show OwnRows _ _ _ _ _ _ _ (runO cs (Ps.map LkP.L) ((pre.map ShX.s ++ [(⟨(i : Int), (j' : Int), sc, sd⟩ : Sh4)]).map Sh4.shw))
      rw [this]
      exact ow9.kept gs (by
       rcases ho9 with h | h
       ·by_cases hO : blockOf O = none
        ·exact .inl (by rw [h, hO])
        ·exact .inr (fun e => rne ob (by omega) (by rw [← h, e]))
       ·exact .inr (fun e => by rw [h] at e; have := Option.some.inj e; simp at this; omega))
    ·go_simp
     go_at_call 59
     (with_reducible refine (Hq.out _ ?_).mono ?_)
     ·exact belt
     rintro e w2 ⟨rfl, P2, hP2, hH2, gx, hfx⟩
     have gz : W.grownBy w2 (some g) := grown_then (grown_of_below (show Below W.heap.size W _ from belt) _) gx (.inl rfl)
     have sz2 := gz.size
     have hb2 := gz.cell hs (fun e => hbne (Option.some.inj e))
     have ob2 := cel_grown He3.out gz (fun e => hobg (Option.some.inj e))
     have ow2 := He4.out.kept gz (by
      by_cases hO : blockOf O = none
      ·exact .inl hO
      ·refine .inr fun e => ?_
       have := (He4.out.lt g e).1
       omega)
     have o2 := ob2.at
     refine hK.out _ _ ?_ (fun hHeld => ?_)
     ·(try dsimp only); exact hb2
     clear hK K
     (try simp only [apz])
     refine wpAnyH_ready (rs := [0, 6]) (by kernel_rfl) (by simp) ?_
     refine AllReadyH.cons rfl (fun K hK => ?_) (AllReadyH.cons rfl (fun K hK => ?_) AllReadyH.nil)
     ·go_simp
      refine hK.out _ _ ?_ (fun hHeld => ?_)
      ·(try dsimp only); exact hb2
      clear hK K
      (try simp only [apz])
      refine wpAnyH_ready (rs := [6]) (by kernel_rfl) (by simp) ?_
      refine AllReadyH.cons rfl (fun K hK => ?_) AllReadyH.nil
      go_simp
      refine hK.out _ _ ?_ (fun hHeld => ?_)
      ·(try dsimp only); exact keepc ((Below.refl _ _).alloc (Nat.le_refl _) _) (by omega) hb2
      clear hK K
      (try simp only [apz])
      refine wpAnyH_ready (rs := [7]) (by kernel_rfl) (by simp) ?_
      refine AllReadyH.cons rfl (fun K hK => ?_) AllReadyH.nil
      refine step_app_gen (At := BlAt) _ (by rfl) (.tmp 60) (.tmp 66) 31 (by rfl) iB _ 1 Tryz.underlying31 HhiB.out HhzB0.out HhzB1.out HhzB2.out rfl (by decide) boolC_len boolC_one (fun _ _ h => h) N Hlro.out (by rfl) (ow2.alloc _) (some ⟨w2.heap.size, 0, none⟩) 1 1 [OZ] rfl (by rfl) (by exact rows_new1 (At := BlAt) w2 OZ _ _ _ rfl rfl rfl) (by unfold maxLen; omega) (by omega) (by simp; omega) ?_
      intro O9 c9 w9 ow9 gr9 ho9
      have sz9 : w2.heap.size ≤ w9.heap.size := by have := gr9.size; simp only [World.size_alloc] at this; omega
      have rne : ∀ b, b < w8.heap.size → some b ≠ blockOf O := fun b hb0 e => by
       have := (ow2.lt b e.symm).1
       omega
      have hb9 := gr9.cell (keepc ((Below.refl _ _).alloc (Nat.le_refl _) _) (by omega) hb2) (rne hb (by omega))
      have ob9 := cel_grown (ob2.alloc (.cells #[.bool OZ] 4)) gr9 (rne ob (by omega))
      have o9 := ob9.at
      have f9 := ob9.free
      have z9 := ob9.lt
      refine hK.out _ _ ?_ (fun hHeld => ?_)
      ·(try dsimp only); exact hb9
      clear hK K
      (try simp only [apz])
      refine wpAnyH_ready (rs := [8]) (by kernel_rfl) (by simp) ?_
      refine AllReadyH.cons rfl (fun K hK => ?_) AllReadyH.nil
      go_simp
      refine hK.out _ _ ?_ (fun hHeld => ?_)
      ·(try dsimp only); first | exact hb9 | (rw [World.cell?_setCell_other _ _ _ _ (by simp only [ne_eq, Addr.mk.injEq, and_true, not_and]; omega)]; exact hb9)
      clear hK K
      (try simp only [apz])
      refine wpAnyH_done (by kernel_rfl) ?_ _
      have hH3 := hH2.below ((Below.refl _ _).alloc (Nat.le_refl _) (.cells #[.bool OZ] 4))
      have hmem : ∀ Q ∈ Qs.set i P2, Q = P2 ∨ Q ∈ Qs := fun Q hQ => by
       rcases List.mem_or_eq_of_mem_set hQ with h1 | h1
       ·exact .inr h1
       ·exact .inl h1
      have farO : ∀ r, blockOf O = some r → ∀ Q ∈ Qs.set i P2, Q.Far r := fun r e Q hQ => by
       rcases hmem Q hQ with rfl | h
       ·exact hfx r (by have := (He4.out.lt r e).2; simpa using this) (He6.out.2 r e)
       ·exact (He5.out Q h).2 r e
      have farb : ∀ Q ∈ Qs.set i P2, Q.Far ob := fun Q hQ => by
       rcases hmem Q hQ with rfl | h
       ·exact hfx ob (by simpa using zo) He6.out.1
       ·exact (He5.out Q h).1
      have hH9 := (hH3.grownO gr9 (fun r e h => by subst h; exact rne g (by omega) e.symm) farO).grown (grown_set (grown_refl w9 (some ob)) 0 (.slice O9 (N + 1) c9)) (fun h => hobg h.symm) farb
      have gs := grown_set (grown_refl w9 (some ob)) 0 (.slice O9 (N + 1) c9)
      have far9 : ∀ Q ∈ Qs.set i P2, Q.Far ob ∧ ∀ r, blockOf O9 = some r → Q.Far r := fun Q hQ => ⟨farb Q hQ, fun r e => by
       rcases ho9 with h | h
       ·exact farO r (by rw [← h]; exact e) Q hQ
       ·rw [h] at e
        cases e
        exact (hH3.ok Q hQ).far (Nat.le_refl _)⟩
      have low : Below w.heap.size W (w9.setCell ⟨ob, 0, none⟩ (.slice O9 (N + 1) c9)) := (((Below.refl w.heap.size W).grown gz szl (fun k e => by cases e; omega)).alloc (by omega) (.cells #[.bool OZ] 4)).trans (((Below.refl w.heap.size _).grown gr9 (by simp; omega) (fun k e => by have := (ow2.lt k e).1; omega)).setCell (by simp; omega) _)
      have ke : KeepsFrom w8.heap.size W (w9.setCell ⟨ob, 0, none⟩ (.slice O9 (N + 1) c9)) := (((keeps_row gz (fun r e => by cases e; exact .inl (by omega))).trans (keeps_row (World.grownBy_alloc w2 (.cells #[.bool OZ] 4) none) (fun r e => by cases e))).trans (keeps_row gr9 (fun r e => .inr ((ow2.alloc _).cellsAt r e)))).trans ((KeepsOthers.setCell w9 ⟨ob, 0, none⟩ (.slice O9 (N + 1) c9)).from _)
      have oset : ∀ b v, b ≠ ob → w9.cell? ⟨b, 0, none⟩ = some v → (w9.setCell ⟨ob, 0, none⟩ (.slice O9 (N + 1) c9)).cell? ⟨b, 0, none⟩ = some v := fun b v hb0 h => by
       rw [World.cell?_setCell_other _ _ _ _ (by simp only [ne_eq, Addr.mk.injEq, and_true, not_and]; exact fun h => hb0 h.symm)]; exact h
      have keepA : ∀ b v, b < w8.heap.size → b ≠ g → b ≠ ob → W.cell? ⟨b, 0, none⟩ = some v → (w9.setCell ⟨ob, 0, none⟩ (.slice O9 (N + 1) c9)).cell? ⟨b, 0, none⟩ = some v := fun b v h1 h2 h3 h => oset b v h3 (gr9.cell (keepc ((Below.refl _ _).alloc (Nat.le_refl _) _) (by omega) (gz.cell h (fun e => h2 (Option.some.inj e)))) (rne b h1))
      refine ⟨rfl, ke, low, keepA hb _ (by omega) hbne (fun h => hobb h.symm) hs, keepA w7.heap.size _ (by omega) (by omega) (by omega) Hbc.out, keepA w.heap.size _ (by omega) (by omega) (by omega) Hal.out, Hlo.out.trans low, by simp; omega, ?_, Qs.set i P2, O9, c9, ?_, hH9, ?_, ?_, far9⟩
      ·rw [List.map_append]; exact Hgd2.out
      ·rw [List.map_set, hP2, Heset.out]; exact congrArg (fun z => runS cs (Ps.map LkP.L) (z.map Sh4.shw)) (List.map_append (f := ShX.s) (l₁ := pre) (l₂ := [⟨BX, ⟨(i : Int), (j' : Int), sc, sd⟩⟩])).symm
      ·rw [List.map_append, List.length_append, List.length_map, HhN.out]; exact ob9.same _
      ·rw [List.map_append]
       have := Hrs2.out
       show OwnRows _ _ _ _ _ _ _ (runO cs (Ps.map LkP.L) ((pre.map ShX.s ++ [(⟨(i : Int), (j' : Int), sc, sd⟩ : Sh4)]).map Sh4.shw))
       rw [this]
       exact ow9.kept gs (by
        rcases ho9 with h | h
        ·by_cases hO : blockOf O = none
         ·exact .inl (by rw [h, hO])
         ·exact .inr (fun e => rne ob (by omega) (by rw [← h, e]))
        ·exact .inr (fun e => by rw [h] at e; have := Option.some.inj e; simp at this; omega))
     ·go_simp
      refine hK.out _ _ ?_ (fun hHeld => ?_)
      ·(try dsimp only); exact keepc ((Below.refl _ _).alloc (Nat.le_refl _) _) (by omega) hb2
      clear hK K
      (try simp only [apz])
      have zo2 := ob2.lt
      refine wpAnyH_ready (rs := [0]) (by kernel_rfl) (by simp) ?_
      refine AllReadyH.cons rfl (fun K hK => ?_) AllReadyH.nil
      go_simp
      refine hK.out _ _ ?_ (fun hHeld => ?_)
      ·(try dsimp only); exact keepc ((Below.refl _ _).alloc (Nat.le_refl _) _) (by omega) hb2
      clear hK K
      (try simp only [apz])
      refine wpAnyH_ready (rs := [7]) (by kernel_rfl) (by simp) ?_
      refine AllReadyH.cons rfl (fun K hK => ?_) AllReadyH.nil
      refine step_app_gen (At := BlAt) _ (by rfl) (.tmp 60) (.tmp 66) 31 (by rfl) iB _ 1 Tryz.underlying31 HhiB.out HhzB0.out HhzB1.out HhzB2.out rfl (by decide) boolC_len boolC_one (fun _ _ h => h) N Hlro.out (by rfl) (ow2.alloc _) (some ⟨w2.heap.size, 0, none⟩) 1 1 [OZ] rfl (by rfl) (by exact rows_new1 (At := BlAt) w2 OZ _ _ _ rfl rfl rfl) (by unfold maxLen; omega) (by omega) (by simp; omega) ?_
      intro O9 c9 w9 ow9 gr9 ho9
      have sz9 : w2.heap.size ≤ w9.heap.size := by have := gr9.size; simp only [World.size_alloc] at this; omega
      have rne : ∀ b, b < w8.heap.size → some b ≠ blockOf O := fun b hb0 e => by
       have := (ow2.lt b e.symm).1
       omega
      have hb9 := gr9.cell (keepc ((Below.refl _ _).alloc (Nat.le_refl _) _) (by omega) hb2) (rne hb (by omega))
      have ob9 := cel_grown (ob2.alloc (.cells #[.bool OZ] 4)) gr9 (rne ob (by omega))
      have o9 := ob9.at
      have f9 := ob9.free
      have z9 := ob9.lt
      refine hK.out _ _ ?_ (fun hHeld => ?_)
      ·(try dsimp only); exact hb9
      clear hK K
      (try simp only [apz])
      refine wpAnyH_ready (rs := [8]) (by kernel_rfl) (by simp) ?_
      refine AllReadyH.cons rfl (fun K hK => ?_) AllReadyH.nil
      go_simp
      refine hK.out _ _ ?_ (fun hHeld => ?_)
      ·(try dsimp only); first | exact hb9 | (rw [World.cell?_setCell_other _ _ _ _ (by simp only [ne_eq, Addr.mk.injEq, and_true, not_and]; omega)]; exact hb9)
      clear hK K
      (try simp only [apz])
      refine wpAnyH_done (by kernel_rfl) ?_ _
      have hH3 := hH2.below ((Below.refl _ _).alloc (Nat.le_refl _) (.cells #[.bool OZ] 4))
      have hmem : ∀ Q ∈ Qs.set i P2, Q = P2 ∨ Q ∈ Qs := fun Q hQ => by
       rcases List.mem_or_eq_of_mem_set hQ with h1 | h1
       ·exact .inr h1
       ·exact .inl h1
      have farO : ∀ r, blockOf O = some r → ∀ Q ∈ Qs.set i P2, Q.Far r := fun r e Q hQ => by
       rcases hmem Q hQ with rfl | h
       ·exact hfx r (by have := (He4.out.lt r e).2; simpa using this) (He6.out.2 r e)
       ·exact (He5.out Q h).2 r e
      have farb : ∀ Q ∈ Qs.set i P2, Q.Far ob := fun Q hQ => by
       rcases hmem Q hQ with rfl | h
       ·exact hfx ob (by simpa using zo) He6.out.1
       ·exact (He5.out Q h).1
      have hH9 := (hH3.grownO gr9 (fun r e h => by subst h; exact rne g (by omega) e.symm) farO).grown (grown_set (grown_refl w9 (some ob)) 0 (.slice O9 (N + 1) c9)) (fun h => hobg h.symm) farb
      have gs := grown_set (grown_refl w9 (some ob)) 0 (.slice O9 (N + 1) c9)
      have far9 : ∀ Q ∈ Qs.set i P2, Q.Far ob ∧ ∀ r, blockOf O9 = some r → Q.Far r := fun Q hQ => ⟨farb Q hQ, fun r e => by
       rcases ho9 with h | h
       ·exact farO r (by rw [← h]; exact e) Q hQ
       ·rw [h] at e
        cases e
        exact (hH3.ok Q hQ).far (Nat.le_refl _)⟩
      have low : Below w.heap.size W (w9.setCell ⟨ob, 0, none⟩ (.slice O9 (N + 1) c9)) := (((Below.refl w.heap.size W).grown gz szl (fun k e => by cases e; omega)).alloc (by omega) (.cells #[.bool OZ] 4)).trans (((Below.refl w.heap.size _).grown gr9 (by simp; omega) (fun k e => by have := (ow2.lt k e).1; omega)).setCell (by simp; omega) _)
      have ke : KeepsFrom w8.heap.size W (w9.setCell ⟨ob, 0, none⟩ (.slice O9 (N + 1) c9)) := (((keeps_row gz (fun r e => by cases e; exact .inl (by omega))).trans (keeps_row (World.grownBy_alloc w2 (.cells #[.bool OZ] 4) none) (fun r e => by cases e))).trans (keeps_row gr9 (fun r e => .inr ((ow2.alloc _).cellsAt r e)))).trans ((KeepsOthers.setCell w9 ⟨ob, 0, none⟩ (.slice O9 (N + 1) c9)).from _)
      have oset : ∀ b v, b ≠ ob → w9.cell? ⟨b, 0, none⟩ = some v → (w9.setCell ⟨ob, 0, none⟩ (.slice O9 (N + 1) c9)).cell? ⟨b, 0, none⟩ = some v := fun b v hb0 h => by
       rw [World.cell?_setCell_other _ _ _ _ (by simp only [ne_eq, Addr.mk.injEq, and_true, not_and]; exact fun h => hb0 h.symm)]; exact h
      have keepA : ∀ b v, b < w8.heap.size → b ≠ g → b ≠ ob → W.cell? ⟨b, 0, none⟩ = some v → (w9.setCell ⟨ob, 0, none⟩ (.slice O9 (N + 1) c9)).cell? ⟨b, 0, none⟩ = some v := fun b v h1 h2 h3 h => oset b v h3 (gr9.cell (keepc ((Below.refl _ _).alloc (Nat.le_refl _) _) (by omega) (gz.cell h (fun e => h2 (Option.some.inj e)))) (rne b h1))
      refine ⟨rfl, ke, low, keepA hb _ (by omega) hbne (fun h => hobb h.symm) hs, keepA w7.heap.size _ (by omega) (by omega) (by omega) Hbc.out, keepA w.heap.size _ (by omega) (by omega) (by omega) Hal.out, Hlo.out.trans low, by simp; omega, ?_, Qs.set i P2, O9, c9, ?_, hH9, ?_, ?_, far9⟩
      ·rw [List.map_append]; exact Hgd2.out
      ·rw [List.map_set, hP2, Heset.out]; exact congrArg (fun z => runS cs (Ps.map LkP.L) (z.map Sh4.shw)) (List.map_append (f := ShX.s) (l₁ := pre) (l₂ := [⟨BX, ⟨(i : Int), (j' : Int), sc, sd⟩⟩])).symm
      ·rw [List.map_append, List.length_append, List.length_map, HhN.out]; exact ob9.same _
      ·rw [List.map_append]
       have := Hrs2.out
       show OwnRows _ _ _ _ _ _ _ (runO cs (Ps.map LkP.L) ((pre.map ShX.s ++ [(⟨(i : Int), (j' : Int), sc, sd⟩ : Sh4)]).map Sh4.shw))
       rw [this]
       exact ow9.kept gs (by
        rcases ho9 with h | h
        ·by_cases hO : blockOf O = none
         ·exact .inl (by rw [h, hO])
         ·exact .inr (fun e => rne ob (by omega) (by rw [← h, e]))
        ·exact .inr (fun e => by rw [h] at e; have := Option.some.inj e; simp at this; omega))
   case done =>
    rintro D xs W hD hS ⟨hs, bc, al, lo, sz, gd, Qs, O, c, e1, e2, e3, e4, e5⟩ hK
    dsimp only
    rw [hS] at e1 e4
    have lxs : xs.length = k := by rw [← Hhk.out, ← hS, List.length_map]
    rw [List.length_map, lxs] at e3
    have lQs : Qs.length = n := by
     have := congrArg List.length e1
     rw [List.length_map, runS_len, List.length_map, Hhn.out] at this; exact this
    have lro : (runO cs (Ps.map LkP.L) (ss.map Sh4.shw)).length = k := by rw [runO_len, List.length_map, Hhk.out]
    have lrs : (runS cs (Ps.map LkP.L) (ss.map Sh4.shw)).length = n := by rw [runS_len, List.length_map, Hhn.out]
    have zD : D < W.heap.size := (Array.getElem?_eq_some_iff.1 hK).1
    have zo := e3.lt
    have szl := lo.size
    have hobg : ob ≠ g := by omega
    have hobb : ob ≠ hb := by omega
    have hbne : hb ≠ g := by omega
    have zhb : hb < W.heap.size := by omega
    have far1 : ∀ P ∈ Qs, P.Far W.heap.size := fun P hP => (e2.ok P hP).far (Nat.le_refl _)
    have ble := e4.rows (At := BlAt) boolC_len (fun _ _ => rfl)
    clear gd bc
    have ⟨Hlo, He1, He2, He3, He4, He5, HhK, Hlro⟩ := hid8 lo e1 e2 e3 e4 e5 hK lro; clear lo e1 e2 e3 e4 e5 hK lro; have ⟨Hlrs, Hfar1, Hble, HhS⟩ := hid4 lrs far1 ble hS; clear lrs far1 ble hS
    go_wp2_with (at_make; refine wpList_make_full _ rfl (.tmp 69) (.tmp 69) 22 rfl W.heap.size 48 iL _ 12 Tryz.underlying22 HhiL.out HhzL0.out HhzL1.out .i64 .i64 (n : Int) (n : Int) n rfl rfl rfl rfl (by rw [HhzL2.out]; omega) (by unfold maxLen; omega) (Nat.le_refl _) ?_)
    intro v4 own4 gr4
    have d4 : Below W.heap.size W v4 := (Below.refl _ _).grown gr4 (Nat.le_refl _) (fun k e => by cases e)
    have zg4 : W.heap.size < v4.heap.size := (own4.lt _ rfl).2
    have h4 := House.made own4
    obtain ⟨g2, hg2⟩ : ∃ g, W.heap.size = g := ⟨_, rfl⟩
    have h4b := He2.out.below d4
    have hs4 := keepc d4 zhb hs
    have e34 := He3.out.below d4
    have bl4 := Bls.below Hble.out d4
    have K4 := (d4.block D zD).trans HhK.out
    have lo4 := Hlo.out.trans (d4.mono szl)
    rw [hg2] at h4 zg4
    have f4 := Hfar1.out
    rw [hg2] at f4
    clear own4 gr4 hs al
    have ⟨Hd4, Hh4, Hh4b, He34, Hbl4, HK4, Hlo4, Hf4⟩ := hid8 d4 h4 h4b e34 bl4 K4 lo4 f4; clear d4 h4 h4b e34 bl4 K4 lo4 f4; have Hhg2 := Lib.hid hg2; clear hg2
    rw [Hhg2.out]
    go_wp2_with fail
    go_loopw [73] (fun i wr => ∃ j : Nat, j ≤ n ∧ i = .int .i64 j ∧ House g2 wr (fillP Qs j) ∧ v4.grownBy wr (some g2)) (fun i _ => n - (intOf i).toNat)
    case atStart => exact ⟨0, by omega, rfl, by rw [fillP_zero, lQs]; exact Hh4.out, grown_refl _ _⟩
    case round =>
     obtain ⟨j, hj, rfl, hH, gr⟩ := hrel
     have szr := gr.size
     have g2g : g ≠ g2 := by have := Hhg2.out; omega
     have g2b : hb ≠ g2 := by have := Hhg2.out; omega
     have hbr : wr.cell? ⟨hb, 0, none⟩ = some (.slice (some ⟨g, 0, none⟩) n n) := gr.cell hs4 (fun e => g2b (Option.some.inj e))
     have hG := Hh4b.out.grown gr g2g Hf4.out
     by_cases hlt : j < n
     ·obtain ⟨⟨L, A2, p, B, r⟩, hP⟩ : ∃ P, Qs[j]? = some P := ⟨_, List.getElem?_eq_getElem (by rw [lQs]; exact hlt)⟩
      have i1 : (j : Int) < (n : Int) := by omega
      have i0' : (0 : Int) ≤ (j : Int) := by omega
      have eG := hG.at12 hP rfl
      have eH := hH.at12 (fillP_at (by rw [lQs]; exact hlt)) rfl
      have hF := hH.put (fillP_at (by rw [lQs]; exact hlt)) (hG.ok _ (List.mem_of_getElem? hP)) (Hf4.out _ (List.mem_of_getElem? hP))
      rw [fillP_set hP] at hF
      have gF := grown_then gr (putL_grown (b := g2) (LkP.cells ⟨L, A2, p, B, r⟩) wr (j * 12)) (.inl rfl)
      simp only [LkP.cells, Lk.cells, LkP.zero, Lk.zero, Slt.zero] at eH
      unfold LkP.cells Lk.cells at eG hF gF
      dsimp only at eG eH hF gF
      simp only [putL, Nat.add_assoc, Nat.reduceAdd] at hF gF
      have ⟨HhH, Hgr, HhG, HhP, HeG, HeH, HhF, HgF⟩ := hid8 hH gr hG hP eG eH hF gF; clear hH gr hG hP eG eH hF gF
      have y0 := (HeG.out 0 _ rfl).at
      have y1 := (HeG.out 1 _ rfl).at
      have y2 := (HeG.out 2 _ rfl).at
      have y3 := (HeG.out 3 _ rfl).at
      have y4 := (HeG.out 4 _ rfl).at
      have y5 := (HeG.out 5 _ rfl).at
      have y6 := (HeG.out 6 _ rfl).at
      have y7 := (HeG.out 7 _ rfl).at
      have y8 := (HeG.out 8 _ rfl).at
      have y9 := (HeG.out 9 _ rfl).at
      have y10 := (HeG.out 10 _ rfl).at
      have y11 := (HeG.out 11 _ rfl).at
      have v0 := (HeH.out 0 _ rfl).at
      have v1 := (HeH.out 1 _ rfl).at
      have v2 := (HeH.out 2 _ rfl).at
      have v3 := (HeH.out 3 _ rfl).at
      have v4 := (HeH.out 4 _ rfl).at
      have v5 := (HeH.out 5 _ rfl).at
      have v6 := (HeH.out 6 _ rfl).at
      have v7 := (HeH.out 7 _ rfl).at
      have v8 := (HeH.out 8 _ rfl).at
      have v9 := (HeH.out 9 _ rfl).at
      have v10 := (HeH.out 10 _ rfl).at
      have v11 := (HeH.out 11 _ rfl).at
      have f0 := (HeH.out 0 _ rfl).free
      have f1 := (HeH.out 1 _ rfl).free
      have f2 := (HeH.out 2 _ rfl).free
      have f3 := (HeH.out 3 _ rfl).free
      have f4 := (HeH.out 4 _ rfl).free
      have f5 := (HeH.out 5 _ rfl).free
      have f6 := (HeH.out 6 _ rfl).free
      have f7 := (HeH.out 7 _ rfl).free
      have f8 := (HeH.out 8 _ rfl).free
      have f9 := (HeH.out 9 _ rfl).free
      have f10 := (HeH.out 10 _ rfl).free
      have f11 := (HeH.out 11 _ rfl).free
      simp only [Nat.add_zero] at y0 v0 f0
      have ly := (HeG.out 0 _ rfl).lt
      have lv := (HeH.out 0 _ rfl).lt
      go_wp2_with fail
      go_roundw
      case rel => exact ⟨j + 1, by omega, by go_num, HhF.out, HgF.out⟩
      case measure => simp [intOf]; omega
     ·have i1 : ¬ (j : Int) < (n : Int) := by omega
      have ej : n = j := by omega
      subst ej
      rw [show fillP Qs n = Qs by rw [← lQs]; exact fillP_all Qs] at hH
      have hL := hH.locks
      have zDr : D ≠ g2 := by have := Hhg2.out; omega
      have Kr := (gr.block D (by have := (Array.getElem?_eq_some_iff.1 HK4.out).1; exact this) (fun e => zDr (Option.some.inj e))).trans HK4.out
      have er := cel_grown He34.out gr (fun e => by have := Hhg2.out; have := Option.some.inj e; omega)
      have br : Bls wr O (runO cs (Ps.map LkP.L) (ss.map Sh4.shw)) := fun i z hz => by
       obtain ⟨b, off, cc, h1, h2, h3, h4, h5⟩ := Hble.out i z hz
       obtain ⟨b', off', cc', h1', h2', h3', h4', h5'⟩ := Hbl4.out i z hz
       rw [h1] at h1'
       cases h1'
       refine ⟨b, off, cc', h1, by omega, h3', fun jj hjj => ?_, h5'⟩
       have := h4' jj hjj
       rw [List.getElem?_eq_getElem (by omega)] at this ⊢
       exact gr.cell this (fun e => by have h6 := Hhg2.out; have h7 : b = g2 := Option.some.inj e; omega)
      have lor : Below w.heap.size w wr := Hlo4.out.grown gr Hlo4.out.size (fun k e => by cases e; have := Hhg2.out; omega)
      have o9 := er.at
      have ⟨HhH, Hgr, HhG, HhL, HKr, Her, Hbr, Hlor⟩ := hid8 hH gr hG hL Kr er br lor; clear hH gr hG hL Kr er br lor
      go_upto_region 23 with (fail)
      go_quiet (fail)
      go_wp2_with fail
      have Kd : (wr.drewN nq).heap[D]? = some (.deferred (some [])) := HKr.out
      have td := turned_put (.deferred none) Kd rfl
      refine ⟨by simp, .inl ⟨_, _, rfl, run_takeDeferred Kd, ?_⟩⟩
      refine ⟨.tuple #[.slice (some ⟨g2, 0, none⟩) n n, .slice O k c, .int .i64 0], ?_, ?_⟩
      ·simp [results, Tryz.results9, go_sem]
      ·refine ⟨some ⟨g2, 0, none⟩, n, Qs, O, c, ?_, He1.out, td.locks (HhL.out.below (below_drewN (Below.refl _ _) nq)), td.rows (Hbr.out.below (below_drewN (Below.refl _ _) nq)) (fun _ _ h => h), by rw [Hlrs.out]; exact Nat.le_refl _, by unfold maxLen; omega, ?_⟩
       ·rw [Hlrs.out, Hlro.out]
       ·exact (below_drewN Hlor.out nq).trans (below_putObj _ (by omega))
theorem drun_any (A : Option Addr) (cp n : Nat) (Ps : List LkP) (X : Option Addr) (cx m : Nat) (cs : List Crd) (Y : Option Addr) (cy k : Nat) (ss : List Sh4) (w : World) (hn : Ps.length = n) (hm : cs.length = m) (hk : ss.length = k) (hn9 : n ≤ 100) (hm9 : m ≤ 1000) (hk9 : k ≤ 100)
  (hl : Locks w A Ps) (hcs : Cards w X cs) (hss : Shows w Y ss) (ht : Tab w) :
  Calls Tryz.prog 9 #[.slice A n cp, .slice X m cx, .slice Y k cy] w (RunRes (runL (Ps.map LkP.L) cs ss) (runW (Ps.map LkP.L) cs ss) (runN (Ps.map LkP.L) cs ss) w) := by
 cases hB : runB (Ps.map LkP.L) cs ss with
 | true => rw [runL, runW, runN, if_pos hB, if_pos hB, if_pos hB]; exact drun_ok A cp n Ps X cx m cs Y cy k ss w hn hm hk hn9 hm9 hk9 hl hcs hss ht hB
 | false =>
  have h : ¬ runB (Ps.map LkP.L) cs ss = true := by rw [hB]; simp
  rw [runL, runW, runN, if_neg h, if_neg h, if_neg h]; exact drun_bad A cp n Ps X cx m cs Y cy k ss w hn hm hk hn9 hm9 hk9 hl hcs hss ht hB
end
end Go.Proofs.YtclgncaghiinhaaGreatDoor
