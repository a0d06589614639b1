/- Package doors: whether one of some showings is wrong. -/
import Derived.RangeFuncNested
import Derived.RangeFuncWrites
import Derived.OwnWalkIn
import Derived.Deep.RegionHeld
import Derived.RangeFuncBound
import Derived.RangeFuncCalls
import Derived.RangeFuncLeaves
import Derived.Shelf.Abstract
import Derived.Shelf.RegionOpen
import Derived.WalkKit
import Derived.TacticsInMore
import Derived.LoopNIn
import Derived.LoopIn
import Derived.BigGuardPartIn
import Derived.Test.YtclgncaghiinhaaGreatDoorT13
import Derived.Test.YtclgncaghiinhaaGreatDoorT15
import Derived.Test.YtclgncaghiinhaaGreatDoorT27
set_option linter.unusedSimpArgs false
set_option linter.unusedVariables false
set_option maxRecDepth 100000
namespace Go.Proofs.YtclgncaghiinhaaGreatDoor
open Go.RowKit
/-- four integers that are no showing of so many locks and cards -/
def wrgD (a b c d : Int) (nl nc : Nat) : Bool := !withD [a, nl, b, nc, d, 4] || !timeB c
set_option maxRecDepth 100000 in
set_option maxHeartbeats 4000000 in
theorem dwrong_any (a b c d : Int) (bl bc : Nat) (A C : Option Addr) (nl cl nc cc : Nat) (w : World) (hl : w.cell? ⟨bl, 0, none⟩ = some (.slice A nl cl)) (hc : w.cell? ⟨bc, 0, none⟩ = some (.slice C nc cc)) (hbl : bl < w.heap.size) (hbc : bc < w.heap.size) :
  Calls Tryz.prog 23 #[.agg #[.int .i64 a, .int .i64 b, .int .i64 c, .int .i64 d], .pointer (some ⟨bl, 0, none⟩), .pointer (some ⟨bc, 0, none⟩)] w fun e w' => e = .returned (.bool (wrgD a b c d nl nc)) ∧ Below w.heap.size w w' := by
 have q1 := fun W B h => dwithin_any B 6 6 [a, nl, b, nc, d, 4] rfl (by omega) W h
 have q2 := fun W => disTime_any c W
 have eW : wrgD a b c d nl nc = (!withD [a, nl, b, nc, d, 4] || !timeB c) := rfl
 rw [eW]
 obtain ⟨w0, hw0⟩ : ∃ W, w.alloc (.cells #[.int .i64 a, .int .i64 b, .int .i64 c, .int .i64 d] 53) = W := ⟨_, rfl⟩
 have bb0 : Below w.heap.size w w0 := by rw [← hw0]; exact (Below.refl _ _).alloc (Nat.le_refl _) _
 have k0 : Blk w0 w.heap.size #[.int .i64 a, .int .i64 b, .int .i64 c, .int .i64 d] := by rw [← hw0]; exact blk_new rfl
 have hl0 := keepc bb0 hbl hl
 have hc0 := keepc bb0 hbc hc
 have s0 : w.heap.size < w0.heap.size := by rw [← hw0]; simp
 generalize hR : withD [a, nl, b, nc, d, 4] = R at *
 generalize timeB c = T at *
 clear eW
 have ⟨Hq1, Hq2, Hhw0, Hbb0, Hk0, Hhl, Hhc, HhR⟩ := hid8 q1 q2 hw0 bb0 k0 hl hc hR; clear q1 q2 hw0 bb0 k0 hl hc hR
 go_enter Tryz.func23, Tryz.ntmps23
 go_upto_region 1 with (fail)
 rw [Hhw0.out]
 obtain ⟨u0, u1, u2, u3⟩ := at4_of Hk0.out
 have lk0 := (Hk0.out 0 _ rfl).lt
 go_wp2_with fail
 (with_reducible refine (Hq1.out _ _ ?_).mono ?_)
 ·exact ints_lit (w := w0) [a, nl, b, nc, d, 4] _ rfl
 rintro e w1 ⟨rfl, b1⟩
 have c1 : Below w0.heap.size w0 w1 := Below.trans belt (b1.mono omh)
 have s1 := c1.size
 have bb1 := Hbb0.out.trans (c1.mono Hbb0.out.size)
 have k1 := Hk0.out.below c1
 have ⟨Hb1, Hc1, Hbb1, Hk1⟩ := hid4 b1 c1 bb1 k1; clear b1 c1 bb1 k1
 clear u0 u1 u2 u3
 cases R with
 | false =>
  go_wp2_with fail
  go_ret
  exact ⟨rfl, Hbb1.out⟩
 | true =>
  obtain ⟨u0, u1, u2, u3⟩ := at4_of Hk1.out
  go_wp2_with fail
  (with_reducible refine (Hq2.out _).mono ?_)
  rintro e w2 ⟨rfl, b2⟩
  have c2 : Below w1.heap.size w1 w2 := Below.trans belt (b2.mono omh)
  have s2 := c2.size
  have bb2 := Hbb1.out.trans (c2.mono Hbb1.out.size)
  have ⟨Hb2, Hc2, Hbb2⟩ := hid3 b2 c2 bb2; clear b2 c2 bb2
  go_wp2_with fail
  go_ret
  exact ⟨ret_bool (by simp), Hbb2.out⟩
section
open Go Go.RowKit
/-- the iterator's contract: at each call of yield it pays Ex at the value that it hands out -/
def SeqTold {α : Type} (F : Fence) (n : Nat) (P : Program) (g : Nat) (lb : Array Value) (encs : α → Array Value) (Kp : World → World → Prop) (S : List α → Prop) (Ex : List α → α → World → Prop) (w : World) : Prop :=
 ∀ (l : Nat) (J : List α → World → Prop) (W : World), Below w.heap.size w W → AbidesFrom W.heap.size J →
  (∀ pre x V, J pre V → Ex pre x V → YieldAt F (n - 1) P l (encs x) V fun e V' => e = .returned (.bool true) ∧ J (pre ++ [x]) V' ∧ Kp V V') →
  J [] W → CallsIn F n P g (#[.func (.yield l) #[] #[]] ++ lb) W fun e V => (∃ v, e = .returned v) ∧ ∃ xs, S xs ∧ J xs V
variable {F : Fence} {n : Nat} {P : Program}
/-- how the body ends -/
def toldPost {α : Type} (B : Nat) (Kp : World → World → Prop) (I : List α → World → Prop) (xs : List α) (W : World) (e : Exit) (_ : Act) (V : World) : Prop := e = .normal ∧ KeepsFrom B W V ∧ Kp W V ∧ I xs V
theorem wpIn_rangeFunc_told {α : Type} {g : Operand} {ps : Array Tmp} {assign body : Code} {Q : Exit → Act → World → Prop} {a : Act} {w : World} (hro : F.round = none) (h1 : 1 ≤ n) {gf : Nat} {lb : Array Value} (hg : a.eval g = .func (.func gf) #[] lb) (hFg : F.fn gf)
    (eg : ∀ args w, (callFunc gf args).run P w = .ok (.enter gf args) w) {encs : α → Array Value} {Kp : World → World → Prop} {S : List α → Prop} {Ex : List α → α → World → Prop} {w0 : World} (hseq : SeqTold F (n - 1) P gf lb encs Kp S Ex w0)
    (hKt : ∀ {A B C : World}, Kp A B → Kp B C → Kp A C) (hKb : ∀ (W : World) (l : Nat) (o o' : Obj), w.heap.size ≤ l → W.heap[l]? = some o → o.isCells = false → o.isWalk = false → Kp W (W.putObj l o')) (hb0 : Below w0.heap.size w0 w) (hps : ∀ x, (encs x).size = ps.size)
    (I : List α → World → Prop) (hI : OwnFrom w.heap.size I) (hE : ∀ pre, OwnFrom w.heap.size (Ex pre)) (h0 : I [] w) (a₁ : α → Act)
    (hassign : ∀ (l : Nat) (x : α) (W : World) (K : Act → World → Prop), K (a₁ x) W → assign.wpIn (F.inRound l) (n - 1 - 1) P (Exit.then K (fun _ _ _ => False)) { tmps := (ps.zip (encs x)).foldl (fun t (p, v) => t.setIfInBounds p v) a.tmps, defers := [] } W)
    (hbody : ∀ (l : Nat) (pre : List α) (x : α) (W : World), I pre W → Ex pre x W → body.wpIn (F.inRound l) (n - 1 - 1) P (toldPost w.heap.size Kp I (pre ++ [x]) W) (a₁ x) W)
    (hdone : ∀ (D : Nat) (xs : List α) (W : World), w.heap.size ≤ D → S xs → I xs W → W.heap[D]? = some (.deferred (some [])) → Q .normal { a with defers := { target := .collected D, args := #[] } :: a.defers } W) :
    (Code.rangeFunc g ps assign body).wpIn F n P Q a w := by
  refine wpIn_rangeFunc fun fn hfn => ?_
  rw [hro]
  -- the two blocks of the loop: the deferred calls at w.heap.size, the record behind it
  let R : LoopState → Loop := fun st => { state := st, pending := none, fn := fn, tmps := a.tmps, params := ps, assign := assign, body := body, defers := w.heap.size }
  let Bk : World → LoopState → Prop := fun W st => W.heap[w.heap.size + 1]? = some (.loop (R st)) ∧ W.heap[w.heap.size]? = some (.deferred (some []))
  have hA : ∀ {A : Obj}, A.isWalk = true → A.isCells = false := fun h => Obj.not_cells_of_walk h
  let W1 := (w.alloc (.deferred (some []))).alloc (.loop (R .ready))
  have hs1 : W1.heap.size = w.heap.size + 2 := by simp [W1]
  have hBk1 : Bk W1 .ready := by
    constructor
    · have := World.alloc_heap_new (w.alloc (.deferred (some []))) (.loop (R .ready)); rwa [World.size_alloc] at this
    · exact (Below.heap_alloc _ _ _ (by simp)).trans (World.alloc_heap_new w _)
  have hI1 : I [] W1 := hI.alloc _ (hI.alloc _ h0)
  have hb1 : Below w0.heap.size w0 W1 := hb0.trans ((((Below.refl _ w).alloc (Nat.le_refl _) _).alloc (by simp) _).mono hb0.size)
  refine ⟨w.heap.size + 1, [{ target := .collected w.heap.size, args := #[] }], W1, { target := .fn (.func gf) lb, args := #[.func (.yield (w.heap.size + 1)) #[] #[]] }, W1, gf, #[.func (.yield (w.heap.size + 1)) #[] #[]] ++ lb, W1,
    run_enterLoop_outer _ _ _ _ _, ?_, ?_, ?_, fun _ => h1, ?_⟩
  · simp only [resolve, hg]; simp [go_sem]
  · intro f hf; simp [Target.leads] at hf; subst hf; exact hFg
  · simp [invoke, go_sem, eg]
  -- what abides: a turned walk lies beyond both blocks or is neither of them
  have hab : AbidesFrom W1.heap.size (fun (pre : List α) W => I pre W ∧ Bk W .ready) := fun s A B row hs hgr hr =>
    ⟨hI s A B row hs.1 hgr (fun r e => by obtain ⟨h1, o, h2, h3⟩ := hr r e; exact ⟨by omega, o, h2, hA h3⟩),
     (grownBy_keeps hgr (fun r e => (hr r e).2) hs.2.1 rfl).trans hs.2.1, (grownBy_keeps hgr (fun r e => (hr r e).2) hs.2.2 rfl).trans hs.2.2⟩
  refine (hseq (w.heap.size + 1) _ W1 hb1 hab ?_ ⟨hI1, hBk1⟩).mono ?_
  · rintro pre x W ⟨hi, hl, hk⟩ hx
    have hlt : w.heap.size + 1 < W.heap.size := (Array.getElem?_eq_some_iff.1 hl).1
    refine ⟨fn, _, assign, body, run_yield (P := P) (args := encs x) hl (hps x), roundIn_of_wpIn hfn (hassign _ x W _ ⟨_, run_beginRound hl rfl, ?_⟩)⟩
    obtain ⟨V, hV⟩ : ∃ V, W.putObj (w.heap.size + 1) (.loop { R .ready with state := .busy }) = V := ⟨_, rfl⟩
    have hlV : V.heap[w.heap.size + 1]? = some (.loop (R .busy)) := by rw [← hV]; exact World.putObj_heap_same hlt
    have hkV : V.heap[w.heap.size]? = some (.deferred (some [])) := by rw [← hV]; exact (World.putObj_heap_other (by omega)).trans hk
    have hiV : I pre V := by rw [← hV]; exact hI.putObj _ hi (by omega) hl rfl
    have hxV : Ex pre x V := by rw [← hV]; exact (hE pre).putObj _ hx (by omega) hl rfl
    have kV : Kp W V := by rw [← hV]; exact hKb _ _ _ _ (by omega) hl rfl rfl
    show Code.wpIn _ _ _ _ _ _ (W.putObj (w.heap.size + 1) (.loop { R .ready with state := .busy }))
    rw [hV]
    refine wpIn_mono (hbody _ pre x V hiV hxV) ?_
    rintro e a3 W3 ⟨rfl, kf, kp, hi3⟩
    have hl3 := kf.same _ _ (by omega) hlV rfl
    have hk3 := kf.same _ _ (Nat.le_refl _) hkV rfl
    have hl3t : w.heap.size + 1 < W3.heap.size := (Array.getElem?_eq_some_iff.1 hl3).1
    refine ⟨_, _, run_endRound (P := P) none hl3, rfl, ⟨hI.putObj _ hi3 (by omega) hl3 rfl, World.putObj_heap_same hl3t, (World.putObj_heap_other (by omega)).trans hk3⟩, hKt kV (hKt kp (hKb _ _ _ _ (by omega) hl3 rfl rfl))⟩
  · rintro e W2 ⟨⟨v, rfl⟩, xs, hS, hi, hl, hk⟩
    exact ⟨none, _, run_endLoop (P := P) hl (by simp [R]), hdone _ xs _ (Nat.le_refl _) hS (hI.putObj _ hi (by omega) hl rfl) ((World.putObj_heap_other (by omega)).trans hk)⟩
/-! A region inside the body of a range over a function, walked as everywhere: no operation of it is a defer statement. -/
section
variable {ops : Array Oper} {Q : Exit → Act → World → Prop} {l : Nat}
theorem rowsIn_of {row : String} {args : Array Value} {w : World} {R : Value → World → Prop} (h : Rows P row args w R) : RowsIn (Fence.wide.inRound l) n P row args w R :=
 fun c cs _ => let ⟨v, w', r, s⟩ := h c cs; ⟨v, w', r, stepsIn_wide.2 s⟩
theorem operIn_of {o : Oper} {a : Act} {w : World} {K : Act → World → Prop} (hd : ∀ c, o.op ≠ .defer c) (h : o.wp P a w K Q) : o.wpIn (Fence.wide.inRound l) n P a w K Q := by
 refine ⟨fun _ _ => trivial, ?_⟩
 rw [Oper.semAt_plain _ _ _ hd]
 unfold Oper.wp at h
 generalize (execOp a.eval o).run P w = r at *
 cases r with
 | ok x w' =>
  cases x with
  | value v => exact h
  | skip => exact h
  | defer d => exact h
  | enter f args => exact ⟨(fun hh => by cases hh), callsIn_wide.2 h⟩
  | row r args => exact ⟨(fun hh => by cases hh), rowsIn_of h⟩
  | round => exact h.elim
  | _ => exact h.elim
 | halt x w' => cases x <;> first | exact h | exact h.elim
/-- no defer statement among them -/
def noDefer (ops : Array Oper) : Bool := ops.all fun o => match o.op with | .defer _ => false | _ => true
theorem noDefer_at (h : noDefer ops = true) {i : Nat} {o : Oper} (hi : ops[i]? = some o) : ∀ c, o.op ≠ .defer c := fun c hc => by
 obtain ⟨hk, he⟩ := Array.getElem?_eq_some_iff.1 hi
 have := (Array.all_eq_true.1 h) i hk
 rw [he, hc] at this
 cases this
theorem opIn_of (hQ : ¬ LetsOut Q) (hd : noDefer ops = true) {i : Nat} {a : Act} {w : World} {K : Act → World → Prop} (h : wpOp P ops Q i K a w) : wpOpIn (Fence.wide.inRound l) n P ops Q i K a w := by
 unfold wpOp at h
 unfold wpOpIn
 cases hi : ops[i]? with
 | none => rw [hi] at h; exact h
 | some o =>
  rw [hi] at h
  simp only at h ⊢
  split
  ·rename_i hw
   rw [if_pos hw] at h
   exact operIn_of (noDefer_at hd hi) (h.resolve_right fun x => hQ x.2)
  ·rename_i hw
   rw [if_neg hw] at h
   exact ⟨fun _ _ => trivial, h⟩
theorem anyIn_of (hQ : ¬ LetsOut Q) (hd : noDefer ops = true) {md : Region.Mode} : ∀ (fuel : Nat) (listed : Array Bool) (a : Act) (w : World), wpAny P md ops Q fuel listed a w → wpAnyIn (Fence.wide.inRound l) n P md ops Q fuel listed a w
 | 0, _, _, _, h => h
 | fuel + 1, _, _, _, h => ⟨h.1, fun i hi => wpOpIn_mono (fun a' w' h' => anyIn_of hQ hd fuel _ a' w' h') (opIn_of hQ hd (h.2 i hi))⟩
theorem wpIn_region_plain {S : World → Prop} {id : Nat} {a : Act} {w : World} (hQ : ¬ LetsOut Q) (hd : noDefer ops = true) (hm : P.follows .mixedOrders = true) (hS : S w.drew) (h : S w.drew → wpAnyH P .any ops Q S ops.size (Array.replicate ops.size false) a w.drew) : (Code.region id ops true).wpIn (Fence.wide.inRound l) n P Q a w :=
 wpIn_region_any hm (anyIn_of hQ hd _ _ _ _ (wpAny_of_held _ _ _ _ (h hS)))
end
end
section
attribute [local go_sem] Oper.semAt_some
/-- a showing: four integers -/
structure Sh4 where
 a : Int
 b : Int
 c : Int
 d : Int
def Sh4.cells (s : Sh4) : List Value := [.int .i64 s.a, .int .i64 s.b, .int .i64 s.c, .int .i64 s.d]
def Sh4At (_ : World) (cs : List Value) (s : Sh4) : Prop := cs = s.cells
def Shows (w : World) (A : Option Addr) (l : List Sh4) : Prop := RowsAt 4 Sh4At w A l
theorem Shows.below {w w' : World} {A : Option Addr} {l : List Sh4} (h : Shows w A l) (hb : Below w.heap.size w w') : Shows w' A l := RowsAt.below h (fun _ _ h => h) hb
theorem Shows.at {w : World} {A : Option Addr} {l : List Sh4} (h : Shows w A l) {i : Nat} {s : Sh4} (hi : l[i]? = some s) : ∃ b off, A = some ⟨b, off, none⟩ ∧ b < w.heap.size ∧
  w.cell? ⟨b, off + i * 4, none⟩ = some (.int .i64 s.a) ∧ w.cell? ⟨b, off + i * 4 + 1, none⟩ = some (.int .i64 s.b) ∧ w.cell? ⟨b, off + i * 4 + 2, none⟩ = some (.int .i64 s.c) ∧ w.cell? ⟨b, off + i * 4 + 3, none⟩ = some (.int .i64 s.d) := by
 obtain ⟨b, off, cs, e, hlt, hl, hc, rfl⟩ := h i s hi
 refine ⟨b, off, e, hlt, hc 0 (by omega), ?_, ?_, ?_⟩
 all_goals (rw [Nat.add_assoc])
 ·exact hc 1 (by omega)
 ·exact hc 2 (by omega)
 ·exact hc 3 (by omega)
theorem AbidesFrom.below {β : Type} {B : Nat} {J : β → World → Prop} (hJ : AbidesFrom B J) {s : β} {W W' : World} (h : J s W) (hb : Below W.heap.size W W') : J s W' := hJ s W W' none h (grown_of_below hb none) (fun r e => by cases e)
/-- what is handed out: a showing in its box -/
structure ShX where
 B : Nat
 s : Sh4
def shEnc (BC : Nat) (x : ShX) : Array Value := #[.int .i64 x.s.a, .func (.func 59) #[] #[.pointer (some ⟨BC, 0, none⟩), .pointer (some ⟨x.B, 0, none⟩)]]
def ShTrue (ss : List Sh4) (n₀ : Nat) (pre : List ShX) (x : ShX) (W : World) : Prop := ss[pre.length]? = some x.s ∧ n₀ ≤ x.B ∧ Blk W x.B x.s.cells.toArray
set_option maxRecDepth 100000 in
set_option maxHeartbeats 16000000 in
theorem showings1_in (n : Nat) (hn : 1 ≤ n) (l BS BC : Nat) (A : Option Addr) (cp N : Nat) (ss : List Sh4) (hN : ss.length = N) (hN5 : N ≤ 5000) (J : List ShX → World → Prop) (u w W : World) (hu : Below u.heap.size u w) (hW : Below w.heap.size w W)
  (hJ : AbidesFrom W.heap.size J)
  (hY : ∀ pre x V, J pre V → ShTrue ss w.heap.size pre x V → YieldAt Fence.wide (n - 1) Tryz.prog l (shEnc BC x) V fun e V' => e = .returned (.bool true) ∧ J (pre ++ [x]) V' ∧ Below u.heap.size V V')
  (hl : Shows u A ss) (zS : BS < w.heap.size) (cS : w.cell? ⟨BS, 0, none⟩ = some (.slice A N cp)) (h0 : J [] W) :
  CallsIn Fence.wide n Tryz.prog 58 #[.func (.yield l) #[] #[], .pointer (some ⟨BS, 0, none⟩), .pointer (some ⟨BC, 0, none⟩)] W fun e V => (∃ v, e = .returned v) ∧ ∃ xs : List ShX, xs.map ShX.s = ss ∧ J xs V := by
 have cS1 := (hW.cell (p := ⟨BS, 0, none⟩) zS).trans cS
 have hU := hu.trans (hW.mono hu.size)
 have szW := hW.size
 have szU := hU.size
 have ⟨HhJ, HhY, Hhl, HcS, HhN, HhW, Hh0, Hhu⟩ := hid8 hJ hY hl cS hN hW h0 hu; clear hJ hY hl cS hN hW h0 hu; have HhU := Lib.hid hU; clear hU
 refine callsIn_wide.2 ?_
 go_enter Tryz.func58, Tryz.ntmps58
 go_upto_region 1 with (fail)
 go_loopw [9] (fun i wr => ∃ (k : Nat) (pre : List ShX), k ≤ N ∧ i = .int .i64 k ∧ pre.map ShX.s = ss.take k ∧ J pre wr ∧ Below u.heap.size u wr ∧ w.heap.size ≤ wr.heap.size) (fun i _ => N - (intOf i).toNat)
 case atStart => exact ⟨0, [], by omega, rfl, by simp, Hh0.out, HhU.out, szW⟩
 case round =>
  obtain ⟨k, pre, hk, rfl, hpre, hJr, bz, swr⟩ := hrel
  have sz := bz.size
  by_cases hlt : k < N
  ·have g1 : (k : Int) < (N : Int) := by omega
   have g0 : (0 : Int) ≤ (k : Int) := by omega
   have hk9 : (k : Int) < 100000 := by omega
   obtain ⟨s, hs⟩ : ∃ s, ss[k]? = some s := ⟨_, List.getElem?_eq_getElem (by rw [HhN.out]; exact hlt)⟩
   obtain ⟨b, off, hA, hbl, c0, c1, c2, c3⟩ := (Hhl.out.below bz).at hs
   subst hA
   obtain ⟨sa, hsa⟩ : ∃ x, s.a = x := ⟨_, rfl⟩
   obtain ⟨sb, hsb⟩ : ∃ x, s.b = x := ⟨_, rfl⟩
   obtain ⟨sc, hsc⟩ : ∃ x, s.c = x := ⟨_, rfl⟩
   obtain ⟨sd, hsd⟩ : ∃ x, s.d = x := ⟨_, rfl⟩
   rw [hsa] at c0
   rw [hsb] at c1
   rw [hsc] at c2
   rw [hsd] at c3
   have ⟨Hhs, Hhsa, Hhsb, Hhsc, Hhsd, Hhpre, HhJr, Hbz⟩ := hid8 hs hsa hsb hsc hsd hpre hJr bz; clear hs hsa hsb hsc hsd hpre hJr bz
   go_upto_region 3 with (fail)
   obtain ⟨w2, hw2⟩ : ∃ V, wr.alloc (.cells #[.int .i64 sa, .int .i64 sb, .int .i64 sc, .int .i64 sd] 53) = V := ⟨_, rfl⟩
   rw [hw2]
   have d2 : Below wr.heap.size wr w2 := by rw [← hw2]; exact (Below.refl _ _).alloc (Nat.le_refl _) _
   have y2 : Blk w2 wr.heap.size #[.int .i64 sa, .int .i64 sb, .int .i64 sc, .int .i64 sd] := by rw [← hw2]; exact blk_new rfl
   have bz2 := Hbz.out.trans (d2.mono sz)
   have J2 := AbidesFrom.below HhJ.out HhJr.out d2
   have lpre : pre.length = k := by
    have := congrArg List.length Hhpre.out
    rw [List.length_map, List.length_take, HhN.out] at this; omega
   have tr : ShTrue ss w.heap.size pre ⟨wr.heap.size, s⟩ w2 := ⟨by rw [lpre]; exact Hhs.out, swr, by show Blk w2 wr.heap.size #[.int .i64 s.a, .int .i64 s.b, .int .i64 s.c, .int .i64 s.d]; rw [Hhsa.out, Hhsb.out, Hhsc.out, Hhsd.out]; exact y2⟩
   obtain ⟨fn, tmps, assign, body, hy, hRn⟩ := HhY.out pre ⟨wr.heap.size, s⟩ w2 J2 tr
   rw [shEnc] at hy
   dsimp only at hy
   rw [Hhsa.out] at hy
   have s2 := d2.size
   clear c0 c1 c2 c3 lpre
   have ⟨Hhw2, Hd2, Hy2, Hbz2, HJ2, Htr, HhRn⟩ := hid7 hw2 d2 y2 bz2 J2 tr hRn; clear hw2 d2 y2 bz2 J2 tr hRn
   obtain ⟨v0, v1, v2, v3⟩ := at4_of Hy2.out
   go_upto_region 4 with (fail)
   refine (wpIn_wide (n := n)).1 ?_
   gi_wp2_with fail
   refine HhRn.out.mono ?_
   rintro e w4 ⟨rfl, J4, k4⟩
   have bz4 := Hbz2.out.trans k4
   have sw4 := k4.size
   have pr4 : (pre ++ [(⟨wr.heap.size, s⟩ : ShX)]).map ShX.s = ss.take (k + 1) := by rw [List.map_append, Hhpre.out, List.take_add_one, Hhs.out]; rfl
   have ⟨HJ4, Hk4, Hbz4, Hpr4⟩ := hid4 J4 k4 bz4 pr4; clear J4 k4 bz4 pr4
   gi_wp2_with fail
   go_wp2_with fail
   go_roundw
   case rel => exact ⟨k + 1, _, by omega, by go_num, Hpr4.out, HJ4.out, Hbz4.out, by omega⟩
   case measure => simp [intOf]; omega
  ·have g1 : ¬ (k : Int) < (N : Int) := by omega
   have fin : pre.map ShX.s = ss := by rw [hpre, List.take_of_length_le (by rw [HhN.out]; omega)]
   have ⟨Hhpre, HhJr, Hbz, Hfin⟩ := hid4 hpre hJr bz fin; clear hpre hJr bz fin
   go_wp2_with fail
   go_end0
   exact ⟨⟨_, rfl⟩, pre, Hfin.out, HhJr.out⟩
theorem showings_told (n : Nat) (hn : 1 ≤ n) (BS BC : Nat) (A : Option Addr) (cp N : Nat) (ss : List Sh4) (hN : ss.length = N) (hN5 : N ≤ 5000) (u w : World) (hu : Below u.heap.size u w) (hl : Shows u A ss) (zS : BS < w.heap.size) (cS : w.cell? ⟨BS, 0, none⟩ = some (.slice A N cp)) :
  SeqTold Fence.wide n Tryz.prog 58 #[.pointer (some ⟨BS, 0, none⟩), .pointer (some ⟨BC, 0, none⟩)] (shEnc BC) (Below u.heap.size) (fun xs => xs.map ShX.s = ss) (ShTrue ss w.heap.size) w :=
 fun l J W hW hJ hY h0 => showings1_in n hn l BS BC A cp N ss hN hN5 J u w W hu hW hJ hY hl zS cS h0
end
def noneW (nl nc : Nat) (l : List Sh4) : Bool := l.all fun s => !wrgD s.a s.b s.c s.d nl nc
theorem noneW_drop {nl nc : Nat} {l : List Sh4} {k : Nat} {s : Sh4} (h : l[k]? = some s) : noneW nl nc (l.drop k) = (!wrgD s.a s.b s.c s.d nl nc && noneW nl nc (l.drop (k + 1))) := by
 obtain ⟨hk, rfl⟩ := List.getElem?_eq_some_iff.1 h
 rw [List.drop_eq_getElem_cons hk]; rfl
set_option maxHeartbeats 4000000 in
theorem dwindex_any (A : Option Addr) (cp n : Nat) (l : List Sh4) (bl bc : Nat) (X Y : Option Addr) (nl cl nc cc : Nat) (hln : l.length = n) (hn : n ≤ 9223372036854775807) (w : World) (hl : Shows w A l) (hL : w.cell? ⟨bl, 0, none⟩ = some (.slice X nl cl)) (hC : w.cell? ⟨bc, 0, none⟩ = some (.slice Y nc cc)) (zl : bl < w.heap.size) (zc : bc < w.heap.size) :
  Calls Tryz.prog 57 #[.slice A n cp, .func (.func 23) #[] #[.pointer (some ⟨bl, 0, none⟩), .pointer (some ⟨bc, 0, none⟩)]] w (IdxPost (noneW nl nc l) w) := by
 generalize hR : noneW nl nc l = R
 have h0 : R = noneW nl nc (l.drop 0) := by rw [List.drop_zero]; exact hR.symm
 have ⟨Hhl, Hhln, HhR, Hh0, HhL, HhC⟩ := hid6 hl hln hR h0 hL hC; clear hl hln hR h0 hL hC
 go_enter Tryz.func57, Tryz.ntmps57
 go_wp2_with fail
 go_loopw [8] (fun i wr => ∃ (k : Nat), k ≤ n ∧ i = .int .i64 k ∧ R = noneW nl nc (l.drop k) ∧ Below w.heap.size w wr) (fun i _ => n - (intOf i).toNat)
 case atStart => exact ⟨0, by omega, rfl, Hh0.out, Below.refl _ _⟩
 case round =>
  obtain ⟨k, hk, rfl, hRk, hb⟩ := hrel
  by_cases hlt : k < n
  ·obtain ⟨s, hs⟩ : ∃ s, l[k]? = some s := ⟨_, List.getElem?_eq_getElem (by rw [Hhln.out]; exact hlt)⟩
   obtain ⟨b, off, rfl, hbl, c0, c1, c2, c3⟩ := (Hhl.out.below hb).at hs
   rw [noneW_drop hs] at hRk
   have q := dwrong_any s.a s.b s.c s.d bl bc X Y nl cl nc cc wr (keepc hb zl HhL.out) (keepc hb zc HhC.out) (by have := hb.size; omega) (by have := hb.size; omega)
   generalize wrgD s.a s.b s.c s.d nl nc = W at *
   generalize s.a = sa at *
   generalize s.b = sb at *
   generalize s.c = sc at *
   generalize s.d = sd at *
   have i1 : (0 : Int) ≤ (k : Int) := by omega
   have i2 : (k : Int) < (n : Int) := by omega
   have hbs := hb.size
   have ⟨Hq, HhRk, Hhb, Hhs⟩ := hid4 q hRk hb hs; clear q hRk hb hs
   cases W with
   | false =>
    go_wp2_with fail
    (with_reducible refine Hq.out.mono ?_)
    rintro e w2 ⟨rfl, b2⟩
    have b3 := Hhb.out.trans (b2.mono hbs)
    have ⟨Hb2, Hb3⟩ := hid2 b2 b3; clear b2 b3
    go_wp2_with fail
    go_roundw
    case rel => exact ⟨k + 1, by omega, by go_num, by rw [HhRk.out]; rfl, Hb3.out⟩
    case measure => simp [intOf]; omega
   | true =>
    go_wp2_with fail
    (with_reducible refine Hq.out.mono ?_)
    rintro e w2 ⟨rfl, b2⟩
    have b3 := Hhb.out.trans (b2.mono hbs)
    have ⟨Hb2, Hb3⟩ := hid2 b2 b3; clear b2 b3
    go_wp2_with fail
    go_ret
    exact ⟨k, rfl, by rw [HhRk.out]; simp, by omega, by omega, Hb3.out⟩
  ·have : l.drop k = [] := List.drop_eq_nil_of_le (by rw [Hhln.out]; omega)
   rw [this] at hRk
   have ⟨HhRk, Hhb, Hthis⟩ := hid3 hRk hb this; clear hRk hb this
   go_wp2_with fail
   go_ret
   exact ⟨-1, rfl, by rw [HhRk.out]; rfl, by omega, by omega, Hhb.out⟩
theorem dwcontains_any (A : Option Addr) (cp n : Nat) (l : List Sh4) (bl bc : Nat) (X Y : Option Addr) (nl cl nc cc : Nat) (hln : l.length = n) (hn : n ≤ 9223372036854775807) (w : World) (hl : Shows w A l) (hL : w.cell? ⟨bl, 0, none⟩ = some (.slice X nl cl)) (hC : w.cell? ⟨bc, 0, none⟩ = some (.slice Y nc cc)) (zl : bl < w.heap.size) (zc : bc < w.heap.size) :
  Calls Tryz.prog 29 #[.slice A n cp, .func (.func 23) #[] #[.pointer (some ⟨bl, 0, none⟩), .pointer (some ⟨bc, 0, none⟩)]] w fun e w' => e = .returned (.bool (!noneW nl nc l)) ∧ Below w.heap.size w w' := by
 have q := dwindex_any A cp n l bl bc X Y nl cl nc cc hln hn w hl hL hC zl zc
 generalize noneW nl nc l = R at *
 unfold IdxPost at q
 have ⟨Hq, Hhl, Hhln, HhL, HhC⟩ := hid5 q hl hln hL hC; clear q hl hln hL hC
 go_enter Tryz.func29, Tryz.ntmps29
 go_wp2_with fail
 refine Hq.out.mono ?_
 rintro e w2 ⟨i, rfl, hi, i0, i1, b2⟩
 have Hb2 := Lib.hid b2; clear b2
 cases R with
 | true =>
  have hi2 : ¬ (0 ≤ i) := by simpa using hi
  go_wp2_with fail
  go_ret
  exact ⟨ret_bool (by simp), Hb2.out⟩
 | false =>
  have hi2 : 0 ≤ i := by simpa using hi
  go_wp2_with fail
  go_ret
  exact ⟨ret_bool (by simp), Hb2.out⟩
end Go.Proofs.YtclgncaghiinhaaGreatDoor
