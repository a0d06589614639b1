/- Package journal: isFormed. -/
import Derived.DeepKeys
import Derived.Deep.Cut
import Derived.Test.YtmbmejclnagffaaDoorM32
set_option linter.unusedSimpArgs false
set_option linter.unusedVariables false
set_option maxRecDepth 100000
namespace Go.Proofs.YtmbmejclnagffaaDoor
open Go.RowKit
set_option maxHeartbeats 4000000 in
theorem lits_head (h : Hd) (hc : HFit h) : Tryd.prog.keyLits 10 33 h.cells = some [.int .i64 h.p, .int .i64 h.n, .int .u64 h.c, .int .i64 h.e, .int .i64 h.s] := by
  have w1 := WalkArith.wf_i64 hc.p
  have w2 := WalkArith.wf_i64 hc.n
  have w3 : (Lit.int .u64 h.c).wf = true := by rw [Lit.wf_int_iff]; exact hc.c
  have w4 := WalkArith.wf_i64 hc.e
  have w5 := WalkArith.wf_i64 hc.s
  have c1 : Tryd.prog.cellsOf 3 = 1 := by kernel_rfl
  have c4 : Tryd.prog.cellsOf 29 = 1 := by kernel_rfl
  have c2 : Tryd.prog.cellsOf 33 = 5 := by kernel_rfl
  have c3 : Tryd.prog.cellsOf 31 = 2 := by kernel_rfl
  have k1 : ∀ d n, (Lit.int .i64 n).wf = true → Tryd.prog.keyLits (d + 1) 3 [.int .i64 n] = some [.int .i64 n] := fun d n h => by simp [Program.keyLits, Tryd.underlying3, h]
  have k3 : ∀ d n, (Lit.int .u64 n).wf = true → Tryd.prog.keyLits (d + 1) 29 [.int .u64 n] = some [.int .u64 n] := fun d n h => by simp [Program.keyLits, Tryd.underlying29, h]
  have k2 : ∀ d a b, (Lit.int .i64 a).wf = true → (Lit.int .i64 b).wf = true → Tryd.prog.keyLits (d + 2) 31 [.int .i64 a, .int .i64 b] = some [.int .i64 a, .int .i64 b] := fun d a b h1 h2 => by
    unfold Program.keyLits
    rw [Tryd.underlying31]
    simp [c1, c3, k1 d _ h1, k1 d _ h2]
  unfold Program.keyLits
  rw [Tryd.underlying33]
  simp [c1, c2, c3, c4, Hd.cells, k1 8 _ w1, k1 8 _ w2, k3 8 _ w3, k2 7 _ _ w4 w5]
def heqB (g h : Hd) : Bool := decide (g.p = h.p ∧ g.n = h.n ∧ g.c = h.c ∧ g.e = h.e ∧ g.s = h.s)
theorem eq_head (g h : Hd) (hg : HFit g) (hh : HFit h) (w : World) : Sem.run Tryd.prog (Op.equalIn 10000 33 (.agg g.cells.toArray) (.agg h.cells.toArray)) w = .ok (heqB g h) w := by
  obtain ⟨r, hr, hi⟩ := run_equalIn_deep (P := Tryd.prog) 9990 10 33 (by kernel_rfl) w 10 10 (.agg g.cells.toArray) (.agg h.cells.toArray) _ _ (by kernel_rfl) (by kernel_rfl) (lits_head g hg) (lits_head h hh)
  have e : r = heqB g h := by
    rw [Bool.eq_iff_iff, hi]
    simp [heqB]
  rw [← e]; exact hr
theorem okL_all {party : Int} : ∀ {l : List Msg} {i : Nat} {L : Int}, okL party i L l = true → ∀ m ∈ l, msgB m = true
  | [], _, _, _, m, hm => by cases hm
  | x :: r, i, L, h, m, hm => by
    rw [okL] at h
    simp only [Bool.and_eq_true] at h
    rcases List.mem_cons.1 hm with rfl | hm
    · exact h.1.1.1.1
    · exact okL_all h.2 m hm
theorem frm_false {l : List Msg} {h : Hd} {party : Int} (e : okL party 0 0 l = false) : frmB l h party = false := by simp [frmB, e]
theorem frm_nil (h : Hd) (party : Int) : frmB [] h party = heqB hd0 h := by
  unfold frmB heqB hdB
  rw [if_pos rfl]
  simp only [okL, List.length_nil, Bool.and_true]
  simp [hd0, eq_comm]
theorem frm_cons {l : List Msg} {h : Hd} {party : Int} (hne : l ≠ []) (hn : l.length ≤ 5000) (ho : okL party 0 0 l = true) : frmB l h party = heqB ⟨party, l.length, chI l, h.e, h.s⟩ h := by
  unfold frmB heqB hdB
  rw [if_neg hne, ho]
  simp [hn, eq_comm]
theorem jfaults_any (A : Option Addr) (n cp : Nat) (party : Int) (w : World) : Calls Tryd.prog 62 #[.slice A n cp, .int .i64 party] w fun e w' =>
    e = .returned (.func (.func 72) #[] #[.pointer (some ⟨w.heap.size, 0, none⟩), .pointer (some ⟨w.heap.size + 1, 0, none⟩)]) ∧ w' = (w.alloc (.cells #[.slice A n cp] 28)).alloc (.cells #[.int .i64 party] 3) := by
  go_enter Tryd.func62, Tryd.ntmps62
  go_wp2_with fail
  go_ret
  exact ⟨rfl, rfl⟩
theorem jfaults_stops (n : Nat) (hn : 1 ≤ n) (BL BP : Nat) (A : Option Addr) (cp N : Nat) (ms : List Msg) (party : Int) (hN : ms.length = N) (hN5 : N ≤ 5000) (w : World)
    (hl : Msgs w A ms) (hc : Cnt w) (zL : BL < w.heap.size) (zP : BP < w.heap.size) (cL : w.cell? ⟨BL, 0, none⟩ = some (.slice A N cp)) (cP : w.cell? ⟨BP, 0, none⟩ = some (.int .i64 party)) :
    SeqStopsK Fence.wide n Tryd.prog 72 #[.pointer (some ⟨BL, 0, none⟩), .pointer (some ⟨BP, 0, none⟩)] (fun x : Nat => #[Value.int .i64 (x : Int)]) (CKeep w.heap.size) (fun ys => ys = [] → okL party 0 0 ms = true) (fun _ => okL party 0 0 ms = false) N w :=
  fun l J Jx W hW hJ _ hY h0 => jfaults1_in n hn l BL BP A cp N ms party hN hN5 J Jx w W hW hJ hY hl hc zL zP cL cP h0
/-- a range over a function, one variable that nothing reads, walked plainly -/
theorem wp_range1 {g : Operand} {p : Tmp} {body : Code} {Q : Exit → Act → World → Prop} {a : Act} {w : World} {gf : Nat} {lb : Array Value} (hg : a.eval g = .func (.func gf) #[] lb) (eg : ∀ args w, (callFunc gf args).run Tryd.prog w = .ok (.enter gf args) w)
    {S Sp : List Nat → Prop} {N : Nat} (hseq : SeqStopsK Fence.wide 4 Tryd.prog gf lb (fun x : Nat => #[Value.int .i64 (x : Int)]) (CKeep w.heap.size) S Sp N w)
    (I : List Nat → World → Prop) (Ix : Code → List Nat → World → Prop) (hI : OwnFrom w.heap.size I) (hIx : ∀ c, OwnFrom w.heap.size (Ix c)) (h0 : I [] w)
    (hbody : ∀ (l : Nat) (pre : List Nat) (x : Nat) (W : World), I pre W → body.wpIn (Fence.wide.inRound l) 3 Tryd.prog (ownPostK (CKeep w.heap.size) I Ix (pre ++ [x]) W) { tmps := a.tmps.setIfInBounds p (.int .i64 x), defers := [] } W)
    (hdone : ∀ (D : Nat) (xs : List Nat) (W : World), w.heap.size ≤ D → S xs → I xs W → W.heap[D]? = some (.deferred (some [])) → Q .normal { a with defers := { target := .collected D, args := #[] } :: a.defers } W)
    (hstop : ∀ (D : Nat) (c : Code) (pre : List Nat) (W : World), w.heap.size ≤ D → Sp pre → Ix c pre W → W.heap[D]? = some (.deferred (some [])) → c.wp Tryd.prog Q { a with defers := { target := .collected D, args := #[] } :: a.defers } W) :
    (Code.rangeFunc g #[p] .skip body).wp Tryd.prog Q a w := by
  refine (wpIn_wide (n := 5)).1 ?_
  refine wpIn_rangeFunc_ownF (n := 5) rfl (by omega) hg trivial eg hseq (fun h k => h.trans k) (fun W l o o' hl h hc hw => CKeep.book (Nat.le_refl _) W l o o' hl h hc hw) (Below.refl _ _) (fun _ => rfl) I Ix hI hIx h0
    (fun x => { tmps := a.tmps.setIfInBounds p (.int .i64 x), defers := [] }) ?_ (fun l pre x W h _ => hbody l pre x W h) hdone (fun D c pre W h1 h2 h3 h4 => wpIn_wide.2 (hstop D c pre W h1 h2 h3 h4))
  intro l x W K hK
  refine wpIn_skip ?_
  simpa [Exit.then] using hK
/-- a function that holds a range over a function, walked plainly -/
theorem calls_of_marks {f : FuncId} {fn : Func} {c : Code} {args : Array Value} {w : World} {R : Ending → World → Prop} (hf : Tryd.prog.funcs[f]? = some fn) (hb : fn.body = some c)
    (h : c.wp Tryd.prog (bodyPostM Fence.wide 5 Tryd.prog fn R) { tmps := args ++ Array.replicate (fn.ntmps - args.size) undef, defers := [] } w) : Calls Tryd.prog f args w R :=
  (callsIn_wide (n := 5)).1 (callsIn_of_wp_marks hf hb trivial (wpIn_wide.2 h) rfl)
end Go.Proofs.YtmbmejclnagffaaDoor
