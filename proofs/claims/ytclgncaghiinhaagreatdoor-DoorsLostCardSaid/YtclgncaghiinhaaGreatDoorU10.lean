/- Maps of the call's own whose elements are any values. -/
import Derived.ProofKit
import Derived.OpenShut
import Derived.ChangeOld
import Derived.Deep.Matrix
import Derived.DataShut
import Derived.SizedLaws
import Derived.Lib.SmallJoins
import Derived.Maps.OwnSet
import Derived.Maps.OwnOps
import Derived.Test.YtclgncaghiinhaaGreatDoorU1
import Derived.Test.YtclgncaghiinhaaGreatDoorU2
import Derived.Test.YtclgncaghiinhaaGreatDoorU4
import Derived.Test.YtclgncaghiinhaaGreatDoorU7
import Derived.Test.YtclgncaghiinhaaGreatDoorU8
import Derived.Test.YtclgncaghiinhaaGreatDoorU9
set_option linter.unusedSimpArgs false
set_option linter.unusedVariables false
set_option maxRecDepth 100000
namespace Go.Proofs.YtclgncaghiinhaaGreatDoor
open Go.RowKit
/-- two slots are equal -/
def sameS (x y : Slt) : Bool := decide (x = y)
theorem sameS_iff {x y : Slt} : sameS x y = true ↔ x = y := by simp [sameS]
/-- a slot says a counter and lost cards -/
def saysS (x : Slt) (c : Int) (l : List Int) : Bool := sameS ⟨0, x.c, x.l, 0⟩ ⟨0, c, l, 0⟩
theorem saysS_iff {x : Slt} {c : Int} {l : List Int} : saysS x c l = true ↔ x.c = c ∧ x.l = l := by
 rw [saysS, sameS_iff]; simp
def len40B (n : Nat) : Bool := decide (n ≤ 40)
theorem rfew_any (xs xc xu ys yc yu : Int) (A : Option Addr) (n p : Nat) (B : Option Addr) (m q : Nat) (w : World) (hn : n ≤ 9223372036854775807) (hm : m ≤ 9223372036854775807) :
  Calls Tryz.prog 53 #[.agg #[.int .i64 xs, .int .i64 xc, .slice A n p, .int .u64 xu, .int .i64 ys, .int .i64 yc, .slice B m q, .int .u64 yu]] w fun e w' => e = .returned (.bool (len40B n && len40B m)) ∧ Below w.heap.size w w' := by
 by_cases h1 : n ≤ 40
 ·have e1 : len40B n = true := decide_eq_true h1
  have d1 : decide ((n : Int) ≤ 40) = true := decide_eq_true (by omega)
  by_cases h2 : m ≤ 40
  ·have e2 : len40B m = true := decide_eq_true h2
   have d2 : decide ((m : Int) ≤ 40) = true := decide_eq_true (by omega)
   rw [e1, e2]
   clear e1 e2
   go_enter Tryz.func53, Tryz.ntmps53
   go_wp2_with fail
   go_ret
   exact ⟨rfl, belt⟩
  ·have e2 : len40B m = false := decide_eq_false h2
   have d2 : decide ((m : Int) ≤ 40) = false := decide_eq_false (by omega)
   rw [e1, e2]
   clear e1 e2
   go_enter Tryz.func53, Tryz.ntmps53
   go_wp2_with fail
   go_ret
   exact ⟨rfl, belt⟩
 ·have e1 : len40B n = false := decide_eq_false h1
  have d1 : decide ((n : Int) ≤ 40) = false := decide_eq_false (by omega)
  rw [e1, Bool.false_and]
  clear e1
  go_enter Tryz.func53, Tryz.ntmps53
  go_wp2_with fail
  go_ret
  exact ⟨rfl, belt⟩
/-- Make, whatever it is called with -/
def mkE (s c : Int) (l : List Int) : Int := if 500 < l.length then 2 else if fldB s c l = true then 0 else 1
def mkS (s c : Int) (l : List Int) : Slt := if mkE s c l = 0 then Slt.made s c l else Slt.zero
theorem make_any (s c : Int) (A : Option Addr) (cap n : Nat) (l : List Int) (hln : l.length = n) (w : World) (hs : -9223372036854775808 ≤ s ∧ s ≤ 9223372036854775807) (hc : -9223372036854775808 ≤ c ∧ c ≤ 9223372036854775807) (hl : IntsAt w A .i64 l) (hn : n ≤ 9223372036854775807) (hf : Fit l) (ht : Tab w) :
  Calls Tryz.prog 45 #[.int .i64 s, .int .i64 c, .slice A n cap] w (SlotErr (mkS s c l) (mkE s c l) w) := by
 by_cases h : 500 < n
 ·have e : mkE s c l = 2 := by rw [mkE, if_pos (by omega)]
  rw [mkS, e, if_neg (by omega)]; exact make_long s c A cap n w h hn
 ·cases hF : fldB s c l with
  | true =>
   have e : mkE s c l = 0 := by rw [mkE, if_neg (by omega), if_pos hF]
   rw [mkS, e, if_pos rfl]; exact make_ok s c A cap n l hln w hs hc hl (by omega) hf ht hF
  | false =>
   have e : mkE s c l = 1 := by rw [mkE, if_neg (by omega), if_neg (by simp [hF])]
   rw [mkS, e, if_neg (by omega)]; exact make_bad s c A cap n l hln w hs hc hl (by omega) hf ht hF
theorem dec0 : decB 0 = [48] := by rw [decB, Lib.itoa, if_neg (by omega), Lib.decDigits]; rfl
theorem sum_zero : sumS 0 0 [] ≠ 0 := by
 have e : textB 0 [0, 0] = [0, 0, 0, 0, 0, 0, 0, 0, 48, 32, 48, 32] := by
  rw [textB, wordsB, List.flatMap_cons, List.flatMap_cons, dec0]; decide +kernel
 rw [sumS, nextB, e]
 decide +kernel
theorem zero_ok : Slt.zero.ok = false := by
 have : (sumS 0 0 [] == 0) = false := by rw [beq_eq_false_iff_ne]; exact sum_zero
 simp only [Slt.zero, Slt.ok, vldB, this, Bool.and_false]
theorem made_ok {s c : Int} {l : List Int} (h : fldB s c l = true) : (Slt.made s c l).ok = true := by
 simp only [Slt.ok, Slt.made, vldB, h, Bool.true_and, beq_self_eq_true]
theorem torn_ok (s c : Int) (l : List Int) : (⟨s, c, l, (sumS s c l + 1) % 18446744073709551616⟩ : Slt).ok = false := by
 have h := sumS_in s c l
 have : (sumS s c l == (sumS s c l + 1) % 18446744073709551616) = false := by rw [beq_eq_false_iff_ne]; omega
 simp only [Slt.ok, vldB, this, Bool.and_false]
theorem fldB_iff {s c : Int} {l : List Int} : fldB s c l = true ↔ ((0 ≤ s ∧ s ≤ 1000000000) ∧ (0 ≤ c ∧ c ≤ 1000000000) ∧ l.length ≤ 500) ∧ risB 0 l = true := by
 simp only [fldB, Bool.and_eq_true, cntB, wB_iff, len5B, decide_eq_true_eq]
 exact ⟨fun ⟨⟨⟨h1, h2⟩, h3⟩, h4⟩ => ⟨⟨h1, h2, h3⟩, h4⟩, fun ⟨⟨h1, h2, h3⟩, h4⟩ => ⟨⟨⟨h1, h2⟩, h3⟩, h4⟩⟩
section
open Go.RowKit Go.ChangeShapes Go.WideShapes Go.ChangeAt
theorem addr_add {a : Addr} {w : World} {v : Value} {i : Nat} (h : w.cell? (a.add i) = some v) (h0 : a.spot = none) : w.cell? ⟨a.block, a.off + i, none⟩ = some v := by
 rw [← h]
 unfold Addr.add
 split
 ·rename_i h1; subst h1; obtain ⟨b, o, s⟩ := a; simp at h0; subst h0; rfl
 ·rfl
theorem cell_lt {w : World} {a : Addr} {v : Value} (h : w.cell? a = some v) : a.block < w.heap.size := by
 unfold World.cell? at h
 rcases Nat.lt_or_ge a.block w.heap.size with h1 | h1
 ·exact h1
 ·rw [Array.getElem?_eq_none h1] at h; cases h
theorem ints_of_cells {w : World} {a : Addr} {k : IntKind} {l : List Int} (h : ∀ i, i < l.length → w.cell? (a.add i) = some (.int k (l.getD i 0))) : IntsAt w (some a) k l := fun i hi => by
 have h0 : w.cell? a = some (.int k (l.getD 0 0)) := h 0 (by omega)
 have hs := World.cell?_spot h0
 exact ⟨a.block, a.off, by obtain ⟨b, o, s⟩ := a; simp at hs; subst hs; rfl, cell_lt h0, addr_add (h i hi) hs⟩
theorem wf_i64 {n : Int} (h : (Lit.int .i64 n).wf = true) : -9223372036854775808 ≤ n ∧ n ≤ 9223372036854775807 := by
 rw [Lit.wf_int_iff] at h; exact h
theorem wf_u64 {n : Int} (h : (Lit.int .u64 n).wf = true) : 0 ≤ n ∧ n ≤ 18446744073709551615 := by
 rw [Lit.wf_int_iff] at h; exact h
end
section
open Go.RowKit Go.ChangeShapes Go.WideShapes Go.ChangeAt
/-- a slice of integers, read out of its one cell -/
theorem read_ints {H : Type} {enc : TypeId × Value → H} {P : Program} {W : World} {held : Bool} {t e : TypeId} {k : IntKind} {v : Value} {fuel : Nat} {y : DataW H × List MemPlace} (ht : P.underlying t = some (.slice e)) (he : P.underlying e = some (.int k)) (hc : P.cellsOf e = 1)
  (hf : DataW.trod enc P W 0 (fun _ => true) held fuel t [v] = some y) : ∃ A c l, v = .slice A l.length c ∧ IntsAt W A k l ∧ l.length ≤ c ∧ c ≤ maxLen ∧ ∀ n ∈ l, (Lit.int k n).wf = true := by
 rcases open_ints ht he hc hf with ⟨hcs, _⟩ | ⟨a, len', cap', zs, hcs, _, hle, hmax, hall, _, hcell, hwf⟩
 ·have : v = .slice none 0 0 := by simpa using hcs
  subst this
  exact ⟨none, 0, [], rfl, IntsAt.nil, by simp, by simp, by simp⟩
 ·have : v = .slice (some a) len' cap' := by simpa using hcs
  subst this
  simp only [if_true] at hall
  refine ⟨some a, cap', zs.take len', ?_, IntsAt.take (ints_of_cells hcell) len', ?_, hmax, fun n hn => hwf n (List.mem_of_mem_take hn)⟩
  ·congr 1; simp; omega
  ·simp; omega
theorem read_int {H : Type} {enc : TypeId × Value → H} {P : Program} {W : World} {held : Bool} {t : TypeId} {k : IntKind} {v : Value} {fuel : Nat} {y : DataW H × List MemPlace} (ht : P.underlying t = some (.int k))
  (hf : DataW.trod enc P W 0 (fun _ => true) held fuel t [v] = some y) : ∃ n, v = .int k n ∧ (Lit.int k n).wf = true := by
 obtain ⟨a, ea, _, w⟩ := DataW.trod_int ht hf
 exact ⟨a, by simpa using ea, w⟩
theorem fit_wf {l : List Int} (h : ∀ n ∈ l, (Lit.int .i64 n).wf = true) : Fit l := fun x hx => wf_i64 (h x hx)
end
section
open Go.RowKit Go.ChangeShapes Go.WideShapes Go.ChangeAt
/-- a slot that came in -/
structure SlotArg (w : World) (A : Option Addr) (n cap : Nat) (x : Slt) : Prop where
 len : x.l.length = n
 s : -9223372036854775808 ≤ x.s ∧ x.s ≤ 9223372036854775807
 c : -9223372036854775808 ≤ x.c ∧ x.c ≤ 9223372036854775807
 ints : IntsAt w A .i64 x.l
 room : n ≤ cap
 max : cap ≤ 9223372036854775807
 fit : Fit x.l
 u : 0 ≤ x.u ∧ x.u ≤ 18446744073709551615
theorem SlotArg.is {w : World} {A : Option Addr} {n cap : Nat} {x : Slt} (h : SlotArg w A n cap x) (hn : n ≤ 40) : SlotIs w A n x := ⟨h.len, h.s, h.c, h.ints, by omega, h.fit, h.u⟩
theorem read_slot {H : Type} {enc : TypeId × Value → H} {W : World} {held : Bool} {fuel : Nat} {c0 c1 c2 c3 : Value} {x : DataW H × List MemPlace} (h : DataW.trod enc Tryz.prog W 0 (fun _ => true) held fuel 45 [c0, c1, c2, c3] = some x) :
  ∃ (z : Slt) (A : Option Addr) (n cap : Nat), c0 = .int .i64 z.s ∧ c1 = .int .i64 z.c ∧ c2 = .slice A n cap ∧ c3 = .int .u64 z.u ∧ SlotArg W A n cap z := by
 obtain ⟨xs, n, _, _, _, hlen, hg⟩ := DataW.trod_struct Tryz.underlying45 h
 have hl : xs.length = 4 := hlen
 match xs, hl with
 | [y0, y1, y2, y3], _ =>
  have e1 : Tryz.prog.cellsOf 3 = 1 := by kernel_rfl
  have e2 : Tryz.prog.cellsOf 42 = 1 := by kernel_rfl
  have e3 : Tryz.prog.cellsOf 43 = 1 := by kernel_rfl
  have g0 := hg 0 _ rfl
  have g1 := hg 1 _ rfl
  have g2 := hg 2 _ rfl
  have g3 := hg 3 _ rfl
  simp [e1, e2, e3] at g0 g1 g2 g3
  obtain ⟨s, rfl, ws⟩ := read_int Tryz.underlying3 g0
  obtain ⟨c, rfl, wc⟩ := read_int Tryz.underlying3 g1
  obtain ⟨A, cap, l, rfl, hi, hc, hm, hw⟩ := read_ints Tryz.underlying42 Tryz.underlying3 (by kernel_rfl) g2
  obtain ⟨u, rfl, wu⟩ := read_int Tryz.underlying43 g3
  unfold maxLen at hm
  exact ⟨⟨s, c, l, u⟩, A, l.length, cap, rfl, rfl, rfl, rfl, ⟨rfl, wf_i64 ws, wf_i64 wc, hi, hc, hm, fit_wf hw, wf_u64 wu⟩⟩
end
/-- a card's nine numbers -/
structure Crd where
 i : Int
 k : Int
 d : Int
 n : Int
 f : Int
 u : Int
 l : Int
 e : Int
 s : Int
def Crd.zero : Crd := ⟨0, 0, 0, 0, 0, 0, 0, 0, 0⟩
def Crd.cells (c : Crd) : List Value := [.int .i64 c.i, .int .i64 c.k, .int .i64 c.d, .int .i64 c.n, .int .i64 c.f, .int .i64 c.u, .int .i64 c.l, .int .i64 c.e, .int .i64 c.s]
theorem Crd.cells_len (c : Crd) : c.cells.length = 9 := rfl
/-- nine numbers of the machine's -/
structure CFit (c : Crd) : Prop where
 i : -9223372036854775808 ≤ c.i ∧ c.i ≤ 9223372036854775807
 k : -9223372036854775808 ≤ c.k ∧ c.k ≤ 9223372036854775807
 d : -9223372036854775808 ≤ c.d ∧ c.d ≤ 9223372036854775807
 n : -9223372036854775808 ≤ c.n ∧ c.n ≤ 9223372036854775807
 f : -9223372036854775808 ≤ c.f ∧ c.f ≤ 9223372036854775807
 u : -9223372036854775808 ≤ c.u ∧ c.u ≤ 9223372036854775807
 l : -9223372036854775808 ≤ c.l ∧ c.l ≤ 9223372036854775807
 e : -9223372036854775808 ≤ c.e ∧ c.e ≤ 9223372036854775807
 s : -9223372036854775808 ≤ c.s ∧ c.s ≤ 9223372036854775807
/-- the kind of a card and what it asks for -/
def kindP (c : Crd) : Prop := (c.k = 1 ∧ (1 ≤ c.d ∧ c.d ≤ 400) ∧ (1 ≤ c.n ∧ c.n ≤ 1000000000) ∧ c.l = 0) ∨ (c.k = 2 ∧ (0 ≤ c.d ∧ c.d ≤ 400) ∧ c.n = 0 ∧ c.l = 0) ∨ (c.k = 3 ∧ (0 ≤ c.d ∧ c.d ≤ 400) ∧ c.n = 0 ∧ (1 ≤ c.l ∧ c.l ≤ 1000000) ∧ c.l ≠ c.i)
def baseP (c : Crd) : Prop := (0 ≤ c.e ∧ c.e < 1073741789) ∧ (0 ≤ c.s ∧ c.s < 1073741789) ∧ (1 ≤ c.i ∧ c.i ≤ 1000000) ∧ 0 ≤ c.f ∧ c.f < c.u ∧ c.u ≤ 1000000000
instance (c : Crd) : Decidable (kindP c) := by unfold kindP; infer_instance
instance (c : Crd) : Decidable (baseP c) := by unfold baseP; infer_instance
/-- whether a card is well-formed -/
def cvB (c : Crd) : Bool := decide (baseP c ∧ kindP c)
theorem cvB_iff {c : Crd} : cvB c = true ↔ baseP c ∧ kindP c := by simp [cvB]
theorem cvB_no {c : Crd} : cvB c = false ↔ ¬ (baseP c ∧ kindP c) := by simp [cvB]
theorem cfit_zero : CFit Crd.zero := ⟨by decide, by decide, by decide, by decide, by decide, by decide, by decide, by decide, by decide⟩
def allV (l : List Crd) : Bool := l.all cvB
section
open Go.RowKit Go.Maps
/-- an element is read as itself -/
def anyE (v : Value) : Option (DataW Value × List MemPlace) := some (.held v, [])
/-- block b is a map over keys of the type k, of at most n entries, that holds D -/
def MapAt (w : World) (P : Program) (k : TypeId) (b n : Nat) (D : DataW Value) : Prop := w.ownsMap P k anyE b n D
section
variable {P : Program} {k e t : TypeId} {w w' : World} {b n : Nat} {D : DataW Value}
theorem MapAt.made (w : World) (P : Program) (k : TypeId) {h : Nat} (hh : w.heap.size = h) : MapAt (w.alloc (.map #[] 0)) P k h 0 (.map []) := by subst hh; exact World.ownsMap_made w P k anyE
theorem MapAt.alloc (h : MapAt w P k b n D) (o : Obj) : MapAt (w.alloc o) P k b n D := World.ownsMap.alloc h o
theorem MapAt.below (h : MapAt w P k b n D) (hb : Below w.heap.size w w') : MapAt w' P k b n D := World.ownsMap.kept h (grown_of_below hb none) (by simp)
theorem MapAt.kept {row : Option Nat} (h : MapAt w P k b n D) (hg : w.grownBy w' row) (hne : some b ≠ row) : MapAt w' P k b n D := World.ownsMap.kept h hg hne
/-- m[k], with and without ok -/
theorem MapAt.look_ok (h : MapAt w P k b n D) (K : Keyed P k) (ht : P.underlying t = some (.map k e)) {z : Value} (hz : (zeroValue e).run P w = .ok z w) {key : Value} {kl : Lit} (hkey : keyOf P k key = some kl) {v : Value} {ok : Bool}
  (hv : D.atKey kl (.held z) = .held v) (hok : Maps.has D kl = ok) : (Instr.lookup t (.map (some b)) key true).run P w = .ok (.tuple #[v, .bool ok]) w := by
 obtain ⟨v', ps, hr, hR⟩ := World.ownsMap.look_ok h K ht hz (R := anyE) rfl hkey
 rw [hv] at hR
 unfold anyE at hR
 injection hR with hR
 injection hR with hR _
 injection hR with hR
 rw [hr, hR, hok]
theorem MapAt.look (h : MapAt w P k b n D) (K : Keyed P k) (ht : P.underlying t = some (.map k e)) {z : Value} (hz : (zeroValue e).run P w = .ok z w) {key : Value} {kl : Lit} (hkey : keyOf P k key = some kl) {v : Value}
  (hv : D.atKey kl (.held z) = .held v) : (Instr.lookup t (.map (some b)) key false).run P w = .ok v w := by
 obtain ⟨v', ps, hr, hR⟩ := World.ownsMap.lookup h K ht hz (R := anyE) rfl hkey
 rw [hv] at hR
 unfold anyE at hR
 injection hR with hR
 injection hR with hR _
 injection hR with hR
 rw [hr, hR]
theorem MapAt.store (h : MapAt w P k b n D) (K : Keyed P k) (ht : P.underlying t = some (.map k e)) (hn : n < maxLen) {key val : Value} {kl : Lit} (hkey : keyOf P k key = some kl) :
  ∃ w', (Instr.mapUpdate t (.map (some b)) key val).run P w = .ok () w' ∧ MapAt w' P k b (n + 1) (D.put kl (.held val)) ∧ w.grownBy w' (some b) := by
 obtain ⟨w', hr, h1, h2⟩ := World.ownsMap.store h K ht hn (val := val) (d := .held val) (ps := []) hkey rfl
 exact ⟨w', hr, h1, h2.grown⟩
/-- an entry of a literal, at the operation -/
theorem wp_insert_any {ops : Array Oper} {rest : List Oper} {o : Oper} {a : Act} {Q : Exit → Act → World → Prop} (w : World) (hg : o.guard = none) (m x v : Operand) (t : TypeId) (hop : o.op = Op.insert t m x v)
  (k e : TypeId) (K : Keyed P k) (ht : P.underlying t = some (.map k e)) (b n : Nat) (D : DataW Value) (hm : a.eval m = .map (some b)) (hown : MapAt w P k b n D) (hn : n < maxLen) (key val : Value) (kl : Lit) (hx : a.eval x = key) (hv : a.eval v = val) (hkey : keyOf P k key = some kl)
  (hK : ∀ w', MapAt w' P k b (n + 1) (D.put kl (.held val)) → w.grownBy w' (some b) → wpList P ops Q rest (a.put o.dst undef) w') : wpList P ops Q (o :: rest) a w := by
 refine wpList_plain hg fun K' hK' => ?_
 obtain ⟨w', hrun, r1, r2⟩ := hown.store K ht hn (val := val) hkey
 unfold Oper.wp
 simp [execOp, hop, hm, hx, hv, hrun, Result.andThen]
 exact hK' _ _ (hK w' r1 r2)
end
theorem int_ne {q : IntKind} {a b : Int} (h : a ≠ b) : Lit.int q a ≠ Lit.int q b := fun e => h (by injection e)
theorem at_put_int {q : IntKind} {D : DataW Value} (hD : IsMap D) (a k : Int) (d z : DataW Value) : (D.put (.int q a) d).atKey (.int q k) z = if k = a then d else D.atKey (.int q k) z := by
 by_cases h : k = a
 ·subst h; rw [if_pos rfl, atKey_put_same hD (by simp [WideAt.IsKeyLit])]
 ·rw [if_neg h, atKey_put_other (int_ne h)]
theorem has_put_int {q : IntKind} {D : DataW Value} (hD : IsMap D) (a k : Int) (d : DataW Value) : Maps.has (D.put (.int q a) d) (.int q k) = (decide (k = a) || Maps.has D (.int q k)) := by
 by_cases h : k = a
 ·subst h; rw [has_put_same hD (by simp [WideAt.IsKeyLit])]; simp
 ·rw [has_put_other (int_ne h)]; simp [h]
end
end Go.Proofs.YtclgncaghiinhaaGreatDoor
