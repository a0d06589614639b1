/- A region that draws its order, walked in one order: operations that are quiet under a condition on the world are taken first, guarded ones whose guard is false are passed by. -/
import Derived.Test.YtclgncaghiinhaaGreatDoorRows
import Derived.ProofKit
import Derived.LaidMore
import Derived.Stop.LaidErr
import Derived.Lib.LaidTab
import Derived.Lib.AppendStr
import Derived.Laws.BytesArg
import Derived.Lib.Strings
import Derived.Lib.SlBytesConst
import Derived.Test.YtclgncaghiinhaaGreatDoorU1
import Derived.Test.YtclgncaghiinhaaGreatDoorU2
import Derived.Test.YtclgncaghiinhaaGreatDoorU3
set_option linter.unusedSimpArgs false
set_option linter.unusedVariables false
set_option maxRecDepth 100000
namespace Go.Proofs.YtclgncaghiinhaaGreatDoor
open Go.RowKit
section
open Go.ChangeShapes Go.WideShapes Go.ChangeAt Go.RowKit
theorem own : ownKnob Tryz.prog.godebug = none := by kernel_rfl
theorem laidOut : laidOutB Tryz.prog = true := by kernel_rfl
def seatLaid : List (String × DataW Unit) := [("math/bits.deBruijn32tab", Rows.laid_math_bits_deBruijn32tab), ("math/bits.deBruijn64tab", Rows.laid_math_bits_deBruijn64tab), ("internal/strconv.uint64pow10", Rows.laid_internal_strconv_uint64pow10)]
theorem door_met (os : Os) (args : Array Value) : laidMetH Tryz.prog seatLaid ((World.doorLaid Tryz.prog 24 os).forCall (fun _ _ => 0) ⟨#[], args, []⟩).memory :=
 laidMetH_of_parts3 (fuel := 8) (laidMet_of_run' 8 (by kernel_rfl) (by kernel_rfl)) (by kernel_rfl) (by kernel_rfl)
theorem tab_of_laid {W : World} (h : laidMetH Tryz.prog seatLaid W) : Tab W := by
 rw [MakeChecks.laidMetH_plain _ _ _ (by kernel_rfl)] at h
 have h2 : laidMet Tryz.prog (("internal/strconv.uint64pow10", Lib.tabData .u64 Lib.pow10Tab) :: []) W := h.tail.tail
 obtain ⟨g, hg⟩ : ∃ g, Tryz.prog.globalNamed "internal/strconv.uint64pow10" = some g := ⟨0, by kernel_rfl⟩
 exact Lib.tabIs_of_head (g := 0) (t := 180) (e := 43) (n := 20) (by kernel_rfl) (by kernel_rfl) Tryz.underlying180 Tryz.underlying43 (by kernel_rfl) (by kernel_rfl) h2
end
theorem infoI64 : (Tryz.prog.info? 3).map (fun i => (i.zero, i.size, i.bytes)) = some (some (.int .i64 0), 1, 8) := by kernel_rfl
theorem fit_cons {x : Int} {l : List Int} (hx : -9223372036854775808 ≤ x ∧ x ≤ 9223372036854775807) (h : Fit l) : Fit (x :: l) := fun y hy => by
 rcases List.mem_cons.1 hy with rfl | h1
 ·exact hx
 ·exact h y h1
theorem OwnInts.block {w : World} {base : Nat} {E : TypeId} {k : IntKind} {A : Option Addr} {c : Nat} {l : List Int} (h : OwnInts w base E k A c l) (hl : 0 < l.length) : ∃ g, A = some ⟨g, 0, none⟩ ∧ base ≤ g ∧ g < w.heap.size ∧ ∀ j, w.frozen? ⟨g, j, none⟩ = false := by
 rcases h.2 with ⟨hv, hn⟩ | ⟨g, cap, cur, hv, hb, hh, _⟩
 ·omega
 ·injection hv with hA _ _
  exact ⟨g, hA, hb, lt_of_block hh, fun j => frozen_of_row w g j cur E hh⟩
theorem digSum_val (A : Option Addr) (c n : Nat) (l : List Int) (hln : l.length = n) (v : Int) (hv : sumB 14695981039346656037 l = v) (w : World) (hl : IntsAt w A .u8 l) (hn : n ≤ 100000000) (hb : ∀ x ∈ l, 0 ≤ x ∧ x ≤ 255) :
  Calls Tryz.prog 113 #[.slice A n c] w fun e w' => e = .returned (.int .u64 v) ∧ Below w.heap.size w w' := by
 subst hln hv; exact digSum_any A c l w hl (by omega) (bytes_getD hb)
theorem digNext_val (d : Int) (A : Option Addr) (c n : Nat) (l : List Int) (hln : l.length = n) (v : Int) (hv : nextB d l = v) (w : World) (hd : 0 ≤ d ∧ d ≤ 18446744073709551615) (hl : IntsAt w A .i64 l) (hn : n ≤ 1000000) (hb : Fit l) (ht : Tab w) :
  Calls Tryz.prog 101 #[.int .u64 d, .slice A n c] w fun e w' => e = .returned (.int .u64 v) ∧ Below w.heap.size w w' := by
 subst hln hv; exact digNext_any d A c l w hd hl hn hb ht
theorem sum_nil : sumB 14695981039346656037 [] = 14695981039346656037 := by simp only [sumB, List.foldl_nil]
def wB (n lo hi : Int) : Bool := decide (lo ≤ n ∧ n ≤ hi)
theorem wB_iff {n lo hi : Int} : wB n lo hi = true ↔ lo ≤ n ∧ n ≤ hi := by simp [wB]
/-- integers that rise from a number on -/
def risB : Int → List Int → Bool
 | _, [] => true
 | d, x :: r => wB x (d + 1) 1000000 && risB x r
theorem ris_drop {d : Int} {l : List Int} {k : Nat} (h : k < l.length) : risB d (l.drop k) = (wB (l.getD k 0) (d + 1) 1000000 && risB (l.getD k 0) (l.drop (k + 1))) := by
 rw [List.drop_eq_getElem_cons h, risB]
 simp [List.getD_eq_getElem?_getD, h]
theorem ris_end {d : Int} {l : List Int} {k : Nat} (h : l.length ≤ k) : risB d (l.drop k) = true := by
 rw [List.drop_eq_nil_of_le h, risB]
def cntB (n : Int) : Bool := wB n 0 1000000000
def len5B (n : Nat) : Bool := decide (n ≤ 500)
/-- the fields of a slot but for its sum may be -/
def fldB (s c : Int) (l : List Int) : Bool := cntB s && cntB c && len5B l.length && risB 0 l
/-- the right sum of a slot -/
def sumS (s c : Int) (l : List Int) : Int := nextB 0 (s :: c :: l)
theorem sumS_in (s c : Int) (l : List Int) : 0 ≤ sumS s c l ∧ sumS s c l ≤ 18446744073709551615 := nextB_in _ _
/-- a slot is whole -/
def vldB (s c : Int) (l : List Int) (u : Int) : Bool := fldB s c l && (sumS s c l == u)
structure Slt where
 s : Int
 c : Int
 l : List Int
 u : Int
 deriving DecidableEq
def Slt.ok (x : Slt) : Bool := vldB x.s x.c x.l x.u
def Slt.zero : Slt := ⟨0, 0, [], 0⟩
def Slt.made (s c : Int) (l : List Int) : Slt := ⟨s, c, l, sumS s c l⟩
/-- the best of two slots -/
def bestI (x y : Slt) : Int := if (y.ok && (!x.ok || decide (x.s < y.s))) = true then 1 else 0
def bestB (x y : Slt) : Bool := x.ok || y.ok
/-- the serial number of the best slot -/
def topS (x y : Slt) : Int := if bestB x y = true then (if bestI x y = 1 then y.s else x.s) else 0
/-- the error of a write -/
def wrE (x y : Slt) (c : Int) (l : List Int) (at_ : Int) : Int :=
 if l.length > 500 then 2 else if fldB 0 c l = false then 1 else if wB at_ 0 3 = false then 1 else if topS x y = 1000000000 then 3 else 0
/-- what is written -/
def wrS (x y : Slt) (c : Int) (l : List Int) (at_ : Int) : Slt :=
 ⟨topS x y + 1, c, l, if at_ = 1 then (sumS (topS x y + 1) c l + 1) % 18446744073709551616 else sumS (topS x y + 1) c l⟩
/-- is the first slot written? -/
def into0 (x y : Slt) : Bool := !bestB x y || (bestI x y == 1)
def wr0 (x y : Slt) (c : Int) (l : List Int) (at_ : Int) : Slt :=
 if wrE x y c l at_ = 0 then (if into0 x y = true ∧ at_ ≠ 0 then wrS x y c l at_ else x) else Slt.zero
def wr1 (x y : Slt) (c : Int) (l : List Int) (at_ : Int) : Slt :=
 if wrE x y c l at_ = 0 then (if into0 x y = false ∧ at_ ≠ 0 then wrS x y c l at_ else y) else Slt.zero
section
/-- a cell that is there, holds v, and may be written -/
def Cel (w : World) (b o : Nat) (v : Value) : Prop := b < w.heap.size ∧ w.cell? ⟨b, o, none⟩ = some v ∧ w.frozen? ⟨b, o, none⟩ = false
section
variable {w w' : World} {b o : Nat} {v : Value}
theorem Cel.lt (h : Cel w b o v) : b < w.heap.size := h.1
theorem Cel.at (h : Cel w b o v) : w.cell? ⟨b, o, none⟩ = some v := h.2.1
theorem Cel.free (h : Cel w b o v) : w.frozen? ⟨b, o, none⟩ = false := h.2.2
theorem Cel.below (h : Cel w b o v) (hb : Below w.heap.size w w') : Cel w' b o v := ⟨Nat.lt_of_lt_of_le h.1 hb.size, keepc hb h.1 h.2.1, keepf hb h.1 h.2.2⟩
theorem frozen_set (w : World) (p q : Addr) (u : Value) : (w.setCell p u).frozen? q = w.frozen? q := by simp
theorem Cel.same (h : Cel w b o v) (u : Value) : Cel (w.setCell ⟨b, o, none⟩ u) b o u := ⟨by simpa using h.1, World.cell?_setCell_same _ _ _ h.2.1, (frozen_set _ _ _ _).trans h.2.2⟩
theorem Cel.other (h : Cel w b o v) {p : Addr} (hp : p ≠ ⟨b, o, none⟩) (u : Value) : Cel (w.setCell p u) b o v :=
 ⟨by simpa using h.1, (World.cell?_setCell_other _ _ _ _ hp).trans h.2.1, (frozen_set _ _ _ _).trans h.2.2⟩
theorem Cel.far (h : Cel w b o v) {g p : Nat} (hp : g ≠ b) (u : Value) : Cel (w.setCell ⟨g, p, none⟩ u) b o v := h.other (by simp only [ne_eq, Addr.mk.injEq, and_true, not_and]; exact fun h => absurd h hp) u
theorem Cel.near (h : Cel w b o v) {p : Nat} (hp : p ≠ o) (u : Value) : Cel (w.setCell ⟨b, p, none⟩ u) b o v := h.other (by simp only [ne_eq, Addr.mk.injEq, and_true, not_and]; exact fun _ => hp) u
theorem Cel.alloc (h : Cel w b o v) (x : Obj) : Cel (w.alloc x) b o v := h.below ((Below.refl _ _).alloc (Nat.le_refl _) x)
theorem cel_new {w : World} {vs : Array Value} {t : TypeId} {n : Nat} (hn : w.heap.size = n) {o : Nat} {v : Value} (h : vs[o]? = some v) : Cel (w.alloc (.cells vs t)) n o v := by
 subst hn
 exact ⟨by simp, by rw [cell_of_row _ _ _ _ _ _ (heap_alloc_new w _)]; exact h, frozen_of_row _ _ _ _ _ (heap_alloc_new w _)⟩
theorem below_set {B : Nat} {w0 w : World} (h : Below B w0 w) {b : Nat} (hb : B ≤ b) (o : Nat) (v : Value) : Below B w0 (w.setCell ⟨b, o, none⟩ v) := h.setCell hb v
end
/-- four cells -/
def Cel4 (w : World) (b o : Nat) (v0 v1 v2 v3 : Value) : Prop := Cel w b o v0 ∧ Cel w b (o + 1) v1 ∧ Cel w b (o + 2) v2 ∧ Cel w b (o + 3) v3
section
variable {w w' : World} {b o : Nat} {v0 v1 v2 v3 : Value}
theorem Cel4.below (h : Cel4 w b o v0 v1 v2 v3) (hb : Below w.heap.size w w') : Cel4 w' b o v0 v1 v2 v3 := ⟨h.1.below hb, h.2.1.below hb, h.2.2.1.below hb, h.2.2.2.below hb⟩
theorem Cel4.far (h : Cel4 w b o v0 v1 v2 v3) {g p : Nat} (hp : g ≠ b) (u : Value) : Cel4 (w.setCell ⟨g, p, none⟩ u) b o v0 v1 v2 v3 := ⟨h.1.far hp u, h.2.1.far hp u, h.2.2.1.far hp u, h.2.2.2.far hp u⟩
theorem Cel4.alloc (h : Cel4 w b o v0 v1 v2 v3) (x : Obj) : Cel4 (w.alloc x) b o v0 v1 v2 v3 := h.below ((Below.refl _ _).alloc (Nat.le_refl _) x)
theorem Cel4.drew (h : Cel4 w b o v0 v1 v2 v3) : Cel4 w.drew b o v0 v1 v2 v3 := h
theorem Cel4.set4 (h : Cel4 w b o v0 v1 v2 v3) (u0 u1 u2 u3 : Value) : Cel4 ((((w.setCell ⟨b, o, none⟩ u0).setCell ⟨b, o + 1, none⟩ u1).setCell ⟨b, o + 2, none⟩ u2).setCell ⟨b, o + 3, none⟩ u3) b o u0 u1 u2 u3 := by
 obtain ⟨h0, h1, h2, h3⟩ := h
 refine ⟨?_, ?_, ?_, ?_⟩
 ·exact (((h0.same _).near (by omega) _).near (by omega) _).near (by omega) _
 ·exact (((h1.near (by omega) _).same _).near (by omega) _).near (by omega) _
 ·exact (((h2.near (by omega) _).near (by omega) _).same _).near (by omega) _
 ·exact (((h3.near (by omega) _).near (by omega) _).near (by omega) _).same _
theorem below_set4 {B : Nat} {w0 : World} (h : Below B w0 w) (hb : B ≤ b) (o0 o1 o2 o3 : Nat) (u0 u1 u2 u3 : Value) : Below B w0 ((((w.setCell ⟨b, o0, none⟩ u0).setCell ⟨b, o1, none⟩ u1).setCell ⟨b, o2, none⟩ u2).setCell ⟨b, o3, none⟩ u3) :=
 below_set (below_set (below_set (below_set h hb _ _) hb _ _) hb _ _) hb _ _
end
theorem OwnInts.base_le {w : World} {base base' : Nat} {E : TypeId} {k : IntKind} {A : Option Addr} {c : Nat} {l : List Int} (h : OwnInts w base E k A c l) (hb : base' ≤ base) : OwnInts w base' E k A c l := by
 refine ⟨h.1, ?_⟩
 rcases h.2 with h2 | ⟨g, cap, cur, hv, hg, hr⟩
 ·exact .inl h2
 ·exact .inr ⟨g, cap, cur, hv, by omega, hr⟩
end
section
section
variable {P : Program} {ops : Array Oper} {Q : Exit → Act → World → Prop} {md : Region.Mode} {S : World → Prop}
/-- all that is asked of the order in which an operation comes -/
def mayTake (md : Region.Mode) (ops : Array Oper) (listed : Array Bool) (i : Nat) : Bool := Region.noSelect ops && Region.free md ops listed i && (Region.ready md ops listed).contains i
theorem take_at {i : Nat} (d : Option Tmp) {o : Oper} {v : Value} {fuel : Nat} {listed : Array Bool} {a : Act} {w : World} (hi : ops[i]? = some o) (hd : o.dst = d) (hb : mayTake md ops listed i = true)
  (hQ : ∀ c a w, Q (.panic c) (a.put d v) w → Q (.panic c) a w) (hw : Region.wanted o (yielded ops a.tmps) = true) (hy : ∀ w, S w → (execOp a.eval o).run P w = .ok (.value v) w) (hS : S w)
  (h : wpAnyH P md ops Q S fuel (listed.setIfInBounds i true) (a.put d v) w) : wpAnyH P md ops Q S (fuel + 1) listed a w := by
 subst hd
 simp only [mayTake, Bool.and_eq_true] at hb
 exact wpAnyH_take hi hb.1.1 hb.1.2 hb.2 hQ (.inl ⟨hw, hy⟩) hS h
theorem skip_at {i : Nat} (d : Option Tmp) {o : Oper} {fuel : Nat} {listed : Array Bool} {a : Act} {w : World} (hi : ops[i]? = some o) (hd : o.dst = d) (hb : mayTake md ops listed i = true)
  (hQ : ∀ c a w, Q (.panic c) (a.put d undef) w → Q (.panic c) a w) (hw : Region.wanted o (yielded ops a.tmps) = false) (hS : S w)
  (h : wpAnyH P md ops Q S fuel (listed.setIfInBounds i true) (a.put d undef) w) : wpAnyH P md ops Q S (fuel + 1) listed a w := by
 subst hd
 simp only [mayTake, Bool.and_eq_true] at hb
 exact wpAnyH_take hi hb.1.1 hb.1.2 hb.2 hQ (.inr ⟨hw, rfl⟩) hS h
/-- as take_at, what is always the same proved by default (merge.py writes it under TIGHT=1; ask for it with EXTRA=tq) -/
theorem tq (i : Nat) (d : Option Tmp) {o : Oper} {v : Value} {fuel : Nat} {listed : Array Bool} {a : Act} {w : World} (h : wpAnyH P md ops Q S fuel (listed.setIfInBounds i true) (a.put d v) w) (hi : ops[i]? = some o := by rfl) (hd : o.dst = d := by rfl) (hb : mayTake md ops listed i = true := by kernel_rfl) (hQ : ∀ c a w, Q (.panic c) (a.put d v) w → Q (.panic c) a w := by exact fun _ _ _ h => h) (hw : Region.wanted o (yielded ops a.tmps) = true := by rfl) (hy : ∀ w, S w → (execOp a.eval o).run P w = .ok (.value v) w := by intro W hSw; (try dsimp only at hSw); go_simp; (try with_reducible rfl)) (hS : S w := by assumption) : wpAnyH P md ops Q S (fuel + 1) listed a w := take_at d hi hd hb hQ hw hy hS h
end
end
end Go.Proofs.YtclgncaghiinhaaGreatDoor
