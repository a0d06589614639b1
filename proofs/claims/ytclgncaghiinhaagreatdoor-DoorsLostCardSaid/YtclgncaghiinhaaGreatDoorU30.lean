/- A range over a function whose iterator tells the body something of what it hands out (a fact Ex x W that lasts while blocks that are no cells are turned). The body never leaves the loop. -/
import Derived.RangeFuncNested
import Derived.RangeFuncWrites
import Derived.OwnWalkIn
import Derived.Deep.RegionHeld
import Derived.Test.YtclgncaghiinhaaGreatDoorU29
set_option linter.unusedSimpArgs false
set_option linter.unusedVariables false
set_option maxRecDepth 100000
namespace Go.Proofs.YtclgncaghiinhaaGreatDoor
open Go.RowKit
/-- four integers that are no showing of so many locks and cards -/
def wrgD (a b c d : Int) (nl nc : Nat) : Bool := !withD [a, nl, b, nc, d, 4] || !timeB c
set_option maxRecDepth 100000 in
set_option maxHeartbeats 4000000 in
theorem dwrong_any (a b c d : Int) (bl bc : Nat) (A C : Option Addr) (nl cl nc cc : Nat) (w : World) (hl : w.cell? ⟨bl, 0, none⟩ = some (.slice A nl cl)) (hc : w.cell? ⟨bc, 0, none⟩ = some (.slice C nc cc)) (hbl : bl < w.heap.size) (hbc : bc < w.heap.size) :
  Calls Tryz.prog 23 #[.agg #[.int .i64 a, .int .i64 b, .int .i64 c, .int .i64 d], .pointer (some ⟨bl, 0, none⟩), .pointer (some ⟨bc, 0, none⟩)] w fun e w' => e = .returned (.bool (wrgD a b c d nl nc)) ∧ Below w.heap.size w w' := by
 have q1 := fun W B h => dwithin_any B 6 6 [a, nl, b, nc, d, 4] rfl (by omega) W h
 have q2 := fun W => disTime_any c W
 have eW : wrgD a b c d nl nc = (!withD [a, nl, b, nc, d, 4] || !timeB c) := rfl
 rw [eW]
 obtain ⟨w0, hw0⟩ : ∃ W, w.alloc (.cells #[.int .i64 a, .int .i64 b, .int .i64 c, .int .i64 d] 53) = W := ⟨_, rfl⟩
 have bb0 : Below w.heap.size w w0 := by rw [← hw0]; exact (Below.refl _ _).alloc (Nat.le_refl _) _
 have k0 : Blk w0 w.heap.size #[.int .i64 a, .int .i64 b, .int .i64 c, .int .i64 d] := by rw [← hw0]; exact blk_new rfl
 have hl0 := keepc bb0 hbl hl
 have hc0 := keepc bb0 hbc hc
 have s0 : w.heap.size < w0.heap.size := by rw [← hw0]; simp
 generalize hR : withD [a, nl, b, nc, d, 4] = R at *
 generalize timeB c = T at *
 clear eW
 have ⟨Hq1, Hq2, Hhw0, Hbb0, Hk0, Hhl, Hhc, HhR⟩ := hid8 q1 q2 hw0 bb0 k0 hl hc hR; clear q1 q2 hw0 bb0 k0 hl hc hR
 go_enter Tryz.func23, Tryz.ntmps23
 go_upto_region 1 with (fail)
 rw [Hhw0.out]
 obtain ⟨u0, u1, u2, u3⟩ := at4_of Hk0.out
 have lk0 := (Hk0.out 0 _ rfl).lt
 go_wp2_with fail
 (with_reducible refine (Hq1.out _ _ ?_).mono ?_)
 ·exact ints_lit (w := w0) [a, nl, b, nc, d, 4] _ rfl
 rintro e w1 ⟨rfl, b1⟩
 have c1 : Below w0.heap.size w0 w1 := Below.trans belt (b1.mono omh)
 have s1 := c1.size
 have bb1 := Hbb0.out.trans (c1.mono Hbb0.out.size)
 have k1 := Hk0.out.below c1
 have ⟨Hb1, Hc1, Hbb1, Hk1⟩ := hid4 b1 c1 bb1 k1; clear b1 c1 bb1 k1
 clear u0 u1 u2 u3
 cases R with
 | false =>
  go_wp2_with fail
  go_ret
  exact ⟨rfl, Hbb1.out⟩
 | true =>
  obtain ⟨u0, u1, u2, u3⟩ := at4_of Hk1.out
  go_wp2_with fail
  (with_reducible refine (Hq2.out _).mono ?_)
  rintro e w2 ⟨rfl, b2⟩
  have c2 : Below w1.heap.size w1 w2 := Below.trans belt (b2.mono omh)
  have s2 := c2.size
  have bb2 := Hbb1.out.trans (c2.mono Hbb1.out.size)
  have ⟨Hb2, Hc2, Hbb2⟩ := hid3 b2 c2 bb2; clear b2 c2 bb2
  go_wp2_with fail
  go_ret
  exact ⟨ret_bool (by simp), Hbb2.out⟩
section
open Go Go.RowKit
/-- the iterator's contract: at each call of yield it pays Ex at the value that it hands out -/
def SeqTold {α : Type} (F : Fence) (n : Nat) (P : Program) (g : Nat) (lb : Array Value) (encs : α → Array Value) (Kp : World → World → Prop) (S : List α → Prop) (Ex : List α → α → World → Prop) (w : World) : Prop :=
 ∀ (l : Nat) (J : List α → World → Prop) (W : World), Below w.heap.size w W → AbidesFrom W.heap.size J →
  (∀ pre x V, J pre V → Ex pre x V → YieldAt F (n - 1) P l (encs x) V fun e V' => e = .returned (.bool true) ∧ J (pre ++ [x]) V' ∧ Kp V V') →
  J [] W → CallsIn F n P g (#[.func (.yield l) #[] #[]] ++ lb) W fun e V => (∃ v, e = .returned v) ∧ ∃ xs, S xs ∧ J xs V
variable {F : Fence} {n : Nat} {P : Program}
/-- how the body ends -/
def toldPost {α : Type} (B : Nat) (Kp : World → World → Prop) (I : List α → World → Prop) (xs : List α) (W : World) (e : Exit) (_ : Act) (V : World) : Prop := e = .normal ∧ KeepsFrom B W V ∧ Kp W V ∧ I xs V
theorem wpIn_rangeFunc_told {α : Type} {g : Operand} {ps : Array Tmp} {assign body : Code} {Q : Exit → Act → World → Prop} {a : Act} {w : World} (hro : F.round = none) (h1 : 1 ≤ n) {gf : Nat} {lb : Array Value} (hg : a.eval g = .func (.func gf) #[] lb) (hFg : F.fn gf)
    (eg : ∀ args w, (callFunc gf args).run P w = .ok (.enter gf args) w) {encs : α → Array Value} {Kp : World → World → Prop} {S : List α → Prop} {Ex : List α → α → World → Prop} {w0 : World} (hseq : SeqTold F (n - 1) P gf lb encs Kp S Ex w0)
    (hKt : ∀ {A B C : World}, Kp A B → Kp B C → Kp A C) (hKb : ∀ (W : World) (l : Nat) (o o' : Obj), w.heap.size ≤ l → W.heap[l]? = some o → o.isCells = false → o.isWalk = false → Kp W (W.putObj l o')) (hb0 : Below w0.heap.size w0 w) (hps : ∀ x, (encs x).size = ps.size)
    (I : List α → World → Prop) (hI : OwnFrom w.heap.size I) (hE : ∀ pre, OwnFrom w.heap.size (Ex pre)) (h0 : I [] w) (a₁ : α → Act)
    (hassign : ∀ (l : Nat) (x : α) (W : World) (K : Act → World → Prop), K (a₁ x) W → assign.wpIn (F.inRound l) (n - 1 - 1) P (Exit.then K (fun _ _ _ => False)) { tmps := (ps.zip (encs x)).foldl (fun t (p, v) => t.setIfInBounds p v) a.tmps, defers := [] } W)
    (hbody : ∀ (l : Nat) (pre : List α) (x : α) (W : World), I pre W → Ex pre x W → body.wpIn (F.inRound l) (n - 1 - 1) P (toldPost w.heap.size Kp I (pre ++ [x]) W) (a₁ x) W)
    (hdone : ∀ (D : Nat) (xs : List α) (W : World), w.heap.size ≤ D → S xs → I xs W → W.heap[D]? = some (.deferred (some [])) → Q .normal { a with defers := { target := .collected D, args := #[] } :: a.defers } W) :
    (Code.rangeFunc g ps assign body).wpIn F n P Q a w := by
  refine wpIn_rangeFunc fun fn hfn => ?_
  rw [hro]
  -- the two blocks of the loop: the deferred calls at w.heap.size, the record behind it
  let R : LoopState → Loop := fun st => { state := st, pending := none, fn := fn, tmps := a.tmps, params := ps, assign := assign, body := body, defers := w.heap.size }
  let Bk : World → LoopState → Prop := fun W st => W.heap[w.heap.size + 1]? = some (.loop (R st)) ∧ W.heap[w.heap.size]? = some (.deferred (some []))
  have hA : ∀ {A : Obj}, A.isWalk = true → A.isCells = false := fun h => Obj.not_cells_of_walk h
  let W1 := (w.alloc (.deferred (some []))).alloc (.loop (R .ready))
  have hs1 : W1.heap.size = w.heap.size + 2 := by simp [W1]
  have hBk1 : Bk W1 .ready := by
    constructor
    · have := World.alloc_heap_new (w.alloc (.deferred (some []))) (.loop (R .ready)); rwa [World.size_alloc] at this
    · exact (Below.heap_alloc _ _ _ (by simp)).trans (World.alloc_heap_new w _)
  have hI1 : I [] W1 := hI.alloc _ (hI.alloc _ h0)
  have hb1 : Below w0.heap.size w0 W1 := hb0.trans ((((Below.refl _ w).alloc (Nat.le_refl _) _).alloc (by simp) _).mono hb0.size)
  refine ⟨w.heap.size + 1, [{ target := .collected w.heap.size, args := #[] }], W1, { target := .fn (.func gf) lb, args := #[.func (.yield (w.heap.size + 1)) #[] #[]] }, W1, gf, #[.func (.yield (w.heap.size + 1)) #[] #[]] ++ lb, W1,
    run_enterLoop_outer _ _ _ _ _, ?_, ?_, ?_, fun _ => h1, ?_⟩
  · simp only [resolve, hg]; simp [go_sem]
  · intro f hf; simp [Target.leads] at hf; subst hf; exact hFg
  · simp [invoke, go_sem, eg]
  -- what abides: a turned walk lies beyond both blocks or is neither of them
  have hab : AbidesFrom W1.heap.size (fun (pre : List α) W => I pre W ∧ Bk W .ready) := fun s A B row hs hgr hr =>
    ⟨hI s A B row hs.1 hgr (fun r e => by obtain ⟨h1, o, h2, h3⟩ := hr r e; exact ⟨by omega, o, h2, hA h3⟩),
     (grownBy_keeps hgr (fun r e => (hr r e).2) hs.2.1 rfl).trans hs.2.1, (grownBy_keeps hgr (fun r e => (hr r e).2) hs.2.2 rfl).trans hs.2.2⟩
  refine (hseq (w.heap.size + 1) _ W1 hb1 hab ?_ ⟨hI1, hBk1⟩).mono ?_
  · rintro pre x W ⟨hi, hl, hk⟩ hx
    have hlt : w.heap.size + 1 < W.heap.size := (Array.getElem?_eq_some_iff.1 hl).1
    refine ⟨fn, _, assign, body, run_yield (P := P) (args := encs x) hl (hps x), roundIn_of_wpIn hfn (hassign _ x W _ ⟨_, run_beginRound hl rfl, ?_⟩)⟩
    obtain ⟨V, hV⟩ : ∃ V, W.putObj (w.heap.size + 1) (.loop { R .ready with state := .busy }) = V := ⟨_, rfl⟩
    have hlV : V.heap[w.heap.size + 1]? = some (.loop (R .busy)) := by rw [← hV]; exact World.putObj_heap_same hlt
    have hkV : V.heap[w.heap.size]? = some (.deferred (some [])) := by rw [← hV]; exact (World.putObj_heap_other (by omega)).trans hk
    have hiV : I pre V := by rw [← hV]; exact hI.putObj _ hi (by omega) hl rfl
    have hxV : Ex pre x V := by rw [← hV]; exact (hE pre).putObj _ hx (by omega) hl rfl
    have kV : Kp W V := by rw [← hV]; exact hKb _ _ _ _ (by omega) hl rfl rfl
    show Code.wpIn _ _ _ _ _ _ (W.putObj (w.heap.size + 1) (.loop { R .ready with state := .busy }))
    rw [hV]
    refine wpIn_mono (hbody _ pre x V hiV hxV) ?_
    rintro e a3 W3 ⟨rfl, kf, kp, hi3⟩
    have hl3 := kf.same _ _ (by omega) hlV rfl
    have hk3 := kf.same _ _ (Nat.le_refl _) hkV rfl
    have hl3t : w.heap.size + 1 < W3.heap.size := (Array.getElem?_eq_some_iff.1 hl3).1
    refine ⟨_, _, run_endRound (P := P) none hl3, rfl, ⟨hI.putObj _ hi3 (by omega) hl3 rfl, World.putObj_heap_same hl3t, (World.putObj_heap_other (by omega)).trans hk3⟩, hKt kV (hKt kp (hKb _ _ _ _ (by omega) hl3 rfl rfl))⟩
  · rintro e W2 ⟨⟨v, rfl⟩, xs, hS, hi, hl, hk⟩
    exact ⟨none, _, run_endLoop (P := P) hl (by simp [R]), hdone _ xs _ (Nat.le_refl _) hS (hI.putObj _ hi (by omega) hl rfl) ((World.putObj_heap_other (by omega)).trans hk)⟩
/-! A region inside the body of a range over a function, walked as everywhere: no operation of it is a defer statement. -/
section
variable {ops : Array Oper} {Q : Exit → Act → World → Prop} {l : Nat}
theorem rowsIn_of {row : String} {args : Array Value} {w : World} {R : Value → World → Prop} (h : Rows P row args w R) : RowsIn (Fence.wide.inRound l) n P row args w R :=
 fun c cs _ => let ⟨v, w', r, s⟩ := h c cs; ⟨v, w', r, stepsIn_wide.2 s⟩
theorem operIn_of {o : Oper} {a : Act} {w : World} {K : Act → World → Prop} (hd : ∀ c, o.op ≠ .defer c) (h : o.wp P a w K Q) : o.wpIn (Fence.wide.inRound l) n P a w K Q := by
 refine ⟨fun _ _ => trivial, ?_⟩
 rw [Oper.semAt_plain _ _ _ hd]
 unfold Oper.wp at h
 generalize (execOp a.eval o).run P w = r at *
 cases r with
 | ok x w' =>
  cases x with
  | value v => exact h
  | skip => exact h
  | defer d => exact h
  | enter f args => exact ⟨(fun hh => by cases hh), callsIn_wide.2 h⟩
  | row r args => exact ⟨(fun hh => by cases hh), rowsIn_of h⟩
  | round => exact h.elim
  | _ => exact h.elim
 | halt x w' => cases x <;> first | exact h | exact h.elim
/-- no defer statement among them -/
def noDefer (ops : Array Oper) : Bool := ops.all fun o => match o.op with | .defer _ => false | _ => true
theorem noDefer_at (h : noDefer ops = true) {i : Nat} {o : Oper} (hi : ops[i]? = some o) : ∀ c, o.op ≠ .defer c := fun c hc => by
 obtain ⟨hk, he⟩ := Array.getElem?_eq_some_iff.1 hi
 have := (Array.all_eq_true.1 h) i hk
 rw [he, hc] at this
 cases this
theorem opIn_of (hQ : ¬ LetsOut Q) (hd : noDefer ops = true) {i : Nat} {a : Act} {w : World} {K : Act → World → Prop} (h : wpOp P ops Q i K a w) : wpOpIn (Fence.wide.inRound l) n P ops Q i K a w := by
 unfold wpOp at h
 unfold wpOpIn
 cases hi : ops[i]? with
 | none => rw [hi] at h; exact h
 | some o =>
  rw [hi] at h
  simp only at h ⊢
  split
  ·rename_i hw
   rw [if_pos hw] at h
   exact operIn_of (noDefer_at hd hi) (h.resolve_right fun x => hQ x.2)
  ·rename_i hw
   rw [if_neg hw] at h
   exact ⟨fun _ _ => trivial, h⟩
theorem anyIn_of (hQ : ¬ LetsOut Q) (hd : noDefer ops = true) {md : Region.Mode} : ∀ (fuel : Nat) (listed : Array Bool) (a : Act) (w : World), wpAny P md ops Q fuel listed a w → wpAnyIn (Fence.wide.inRound l) n P md ops Q fuel listed a w
 | 0, _, _, _, h => h
 | fuel + 1, _, _, _, h => ⟨h.1, fun i hi => wpOpIn_mono (fun a' w' h' => anyIn_of hQ hd fuel _ a' w' h') (opIn_of hQ hd (h.2 i hi))⟩
theorem wpIn_region_plain {S : World → Prop} {id : Nat} {a : Act} {w : World} (hQ : ¬ LetsOut Q) (hd : noDefer ops = true) (hm : P.follows .mixedOrders = true) (hS : S w.drew) (h : S w.drew → wpAnyH P .any ops Q S ops.size (Array.replicate ops.size false) a w.drew) : (Code.region id ops true).wpIn (Fence.wide.inRound l) n P Q a w :=
 wpIn_region_any hm (anyIn_of hQ hd _ _ _ _ (wpAny_of_held _ _ _ _ (h hS)))
end
end
end Go.Proofs.YtclgncaghiinhaaGreatDoor
