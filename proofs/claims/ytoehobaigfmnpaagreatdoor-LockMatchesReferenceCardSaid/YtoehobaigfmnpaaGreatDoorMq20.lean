/- Contracts of package lock: Power, New. -/
import Derived.Lib.SmallJoins
import Derived.Deep.Slices
import Derived.Test.YtoehobaigfmnpaaGreatDoorMq2
import Derived.Test.YtoehobaigfmnpaaGreatDoorMq9
import Derived.Test.YtoehobaigfmnpaaGreatDoorMq10
import Derived.Test.YtoehobaigfmnpaaGreatDoorMq11
import Derived.Test.YtoehobaigfmnpaaGreatDoorMq12
import Derived.Test.YtoehobaigfmnpaaGreatDoorMq13
import Derived.Test.YtoehobaigfmnpaaGreatDoorMq14
import Derived.Test.YtoehobaigfmnpaaGreatDoorMq17
import Derived.Test.YtoehobaigfmnpaaGreatDoorMq18
import Derived.Test.YtoehobaigfmnpaaGreatDoorMq19
set_option linter.unusedSimpArgs false
set_option linter.unusedVariables false
set_option maxRecDepth 100000
namespace Go.Proofs.YtoehobaigfmnpaaGreatDoor
open Go.RowKit
def mkE (s c : Int) (l : List Int) : Int := if 500 < l.length then 2 else if fldB s c l = true then 0 else 1
def mkS (s c : Int) (l : List Int) : Slt := if mkE s c l = 0 then Slt.made s c l else Slt.zero
theorem make_any (s c : Int) (A : Option Addr) (cap n : Nat) (l : List Int) (hln : l.length = n) (w : World) (hs : -9223372036854775808 ≤ s ∧ s ≤ 9223372036854775807) (hc : -9223372036854775808 ≤ c ∧ c ≤ 9223372036854775807) (hl : IntsAt w A .i64 l) (hn : n ≤ 9223372036854775807) (hf : Fit l) (ht : Tab w) :
  Calls Tryz.prog 23 #[.int .i64 s, .int .i64 c, .slice A n cap] w (SlotErr (mkS s c l) (mkE s c l) w) := by
 by_cases h : 500 < n
 ·have e : mkE s c l = 2 := by rw [mkE, if_pos (by omega)]
  rw [mkS, e, if_neg (by omega)]; exact make_long s c A cap n w h hn
 ·cases hF : fldB s c l with
  | true =>
   have e : mkE s c l = 0 := by rw [mkE, if_neg (by omega), if_pos hF]
   rw [mkS, e, if_pos rfl]; exact make_ok s c A cap n l hln w hs hc hl (by omega) hf ht hF
  | false =>
   have e : mkE s c l = 1 := by rw [mkE, if_neg (by omega), if_neg (by simp [hF])]
   rw [mkS, e, if_neg (by omega)]; exact make_bad s c A cap n l hln w hs hc hl (by omega) hf ht hF
theorem rmake_any (s c : Int) (A : Option Addr) (cap n : Nat) (l : List Int) (hln : l.length = n) (w : World) (hs : -9223372036854775808 ≤ s ∧ s ≤ 9223372036854775807) (hc : -9223372036854775808 ≤ c ∧ c ≤ 9223372036854775807) (hl : IntsAt w A .i64 l) (hn : n ≤ 9223372036854775807) (hf : Fit l) :
  Calls Tryz.prog 26 #[.int .i64 s, .int .i64 c, .slice A n cap] w (SlotErr (mkS s c l) (mkE s c l) w) := by
 by_cases h : 500 < n
 ·have e : mkE s c l = 2 := by rw [mkE, if_pos (by omega)]
  rw [mkS, e, if_neg (by omega)]; exact rmake_long s c A cap n w h hn
 ·cases hF : fldB s c l with
  | true =>
   have e : mkE s c l = 0 := by rw [mkE, if_neg (by omega), if_pos hF]
   rw [mkS, e, if_pos rfl]; exact rmake_ok s c A cap n l hln w hs hc hl (by omega) hf hF
  | false =>
   have e : mkE s c l = 1 := by rw [mkE, if_neg (by omega), if_neg (by simp [hF])]
   rw [mkS, e, if_neg (by omega)]; exact rmake_bad s c A cap n l hln w hs hc hl (by omega) hf hF
theorem dec0 : decB 0 = [48] := by rw [decB, Lib.itoa, if_neg (by omega), Lib.decDigits]; rfl
theorem sum_zero : sumS 0 0 [] ≠ 0 := by
 have e : textB 0 [0, 0] = [0, 0, 0, 0, 0, 0, 0, 0, 48, 32, 48, 32] := by
  rw [textB, wordsB, List.flatMap_cons, List.flatMap_cons, dec0]; decide +kernel
 rw [sumS, nextB, e]
 decide +kernel
theorem zero_ok : Slt.zero.ok = false := by
 have : (sumS 0 0 [] == 0) = false := by rw [beq_eq_false_iff_ne]; exact sum_zero
 simp only [Slt.zero, Slt.ok, vldB, this, Bool.and_false]
theorem made_ok {s c : Int} {l : List Int} (h : fldB s c l = true) : (Slt.made s c l).ok = true := by
 simp only [Slt.ok, Slt.made, vldB, h, Bool.true_and, beq_self_eq_true]
theorem torn_ok (s c : Int) (l : List Int) : (⟨s, c, l, (sumS s c l + 1) % 18446744073709551616⟩ : Slt).ok = false := by
 have h := sumS_in s c l
 have : (sumS s c l == (sumS s c l + 1) % 18446744073709551616) = false := by rw [beq_eq_false_iff_ne]; omega
 simp only [Slt.ok, vldB, this, Bool.and_false]
theorem fldB_iff {s c : Int} {l : List Int} : fldB s c l = true ↔ ((0 ≤ s ∧ s ≤ 1000000000) ∧ (0 ≤ c ∧ c ≤ 1000000000) ∧ l.length ≤ 500) ∧ risB 0 l = true := by
 simp only [fldB, Bool.and_eq_true, cntB, wB_iff, len5B, decide_eq_true_eq]
 exact ⟨fun ⟨⟨⟨h1, h2⟩, h3⟩, h4⟩ => ⟨⟨h1, h2, h3⟩, h4⟩, fun ⟨⟨h1, h2, h3⟩, h4⟩ => ⟨⟨⟨h1, h2⟩, h3⟩, h4⟩⟩
theorem slotIs_zero (w : World) (A : Option Addr) : SlotIs w A 0 Slt.zero := ⟨rfl, by simp only [Slt.zero]; omega, by simp only [Slt.zero]; omega, IntsAt.nil, by omega, fun x hx => by simp [Slt.zero] at hx, by simp only [Slt.zero]; omega⟩
theorem best0 : bestI Slt.zero Slt.zero = 0 ∧ bestB Slt.zero Slt.zero = false := by simp [bestI, bestB, zero_ok]
section
open Go.RowKit Go.ChangeShapes Go.WideShapes Go.ChangeAt
theorem read_ints {H : Type} {enc : TypeId × Value → H} {P : Program} {W : World} {held : Bool} {t e : TypeId} {k : IntKind} {v : Value} {fuel : Nat} {y : DataW H × List MemPlace} (ht : P.underlying t = some (.slice e)) (he : P.underlying e = some (.int k)) (hc : P.cellsOf e = 1)
  (hf : DataW.trod enc P W 0 (fun _ => true) held fuel t [v] = some y) : ∃ A c l, v = .slice A l.length c ∧ IntsAt W A k l ∧ l.length ≤ c ∧ c ≤ maxLen ∧ ∀ n ∈ l, (Lit.int k n).wf = true := by
 rcases open_ints ht he hc hf with ⟨hcs, _⟩ | ⟨a, len', cap', zs, hcs, _, hle, hmax, hall, _, hcell, hwf⟩
 ·have : v = .slice none 0 0 := by simpa using hcs
  subst this
  exact ⟨none, 0, [], rfl, IntsAt.nil, by simp, by simp, by simp⟩
 ·have : v = .slice (some a) len' cap' := by simpa using hcs
  subst this
  simp only [if_true] at hall
  refine ⟨some a, cap', zs.take len', ?_, IntsAt.take (ints_of_cells hcell) len', ?_, hmax, fun n hn => hwf n (List.mem_of_mem_take hn)⟩
  ·congr 1; simp; omega
  ·simp; omega
theorem read_int {H : Type} {enc : TypeId × Value → H} {P : Program} {W : World} {held : Bool} {t : TypeId} {k : IntKind} {v : Value} {fuel : Nat} {y : DataW H × List MemPlace} (ht : P.underlying t = some (.int k))
  (hf : DataW.trod enc P W 0 (fun _ => true) held fuel t [v] = some y) : ∃ n, v = .int k n ∧ (Lit.int k n).wf = true := by
 obtain ⟨a, ea, _, w⟩ := DataW.trod_int ht hf
 exact ⟨a, by simpa using ea, w⟩
theorem fit_wf {l : List Int} (h : ∀ n ∈ l, (Lit.int .i64 n).wf = true) : Fit l := fun x hx => wf_i64 (h x hx)
end
section
open Go.RowKit Go.ChangeShapes Go.WideShapes Go.ChangeAt
structure SlotArg (w : World) (A : Option Addr) (n cap : Nat) (x : Slt) : Prop where
 len : x.l.length = n
 s : -9223372036854775808 ≤ x.s ∧ x.s ≤ 9223372036854775807
 c : -9223372036854775808 ≤ x.c ∧ x.c ≤ 9223372036854775807
 ints : IntsAt w A .i64 x.l
 room : n ≤ cap
 max : cap ≤ 9223372036854775807
 fit : Fit x.l
 u : 0 ≤ x.u ∧ x.u ≤ 18446744073709551615
theorem SlotArg.is {w : World} {A : Option Addr} {n cap : Nat} {x : Slt} (h : SlotArg w A n cap x) (hn : n ≤ 40) : SlotIs w A n x := ⟨h.len, h.s, h.c, h.ints, by omega, h.fit, h.u⟩
theorem read_slot {H : Type} {enc : TypeId × Value → H} {W : World} {held : Bool} {fuel : Nat} {c0 c1 c2 c3 : Value} {x : DataW H × List MemPlace} (h : DataW.trod enc Tryz.prog W 0 (fun _ => true) held fuel 25 [c0, c1, c2, c3] = some x) :
  ∃ (z : Slt) (A : Option Addr) (n cap : Nat), c0 = .int .i64 z.s ∧ c1 = .int .i64 z.c ∧ c2 = .slice A n cap ∧ c3 = .int .u64 z.u ∧ SlotArg W A n cap z := by
 obtain ⟨xs, n, _, _, _, hlen, hg⟩ := DataW.trod_struct Tryz.underlying25 h
 have hl : xs.length = 4 := hlen
 match xs, hl with
 | [y0, y1, y2, y3], _ =>
  have e1 : Tryz.prog.cellsOf 3 = 1 := by kernel_rfl
  have e2 : Tryz.prog.cellsOf 22 = 1 := by kernel_rfl
  have e3 : Tryz.prog.cellsOf 23 = 1 := by kernel_rfl
  have g0 := hg 0 _ rfl
  have g1 := hg 1 _ rfl
  have g2 := hg 2 _ rfl
  have g3 := hg 3 _ rfl
  simp [e1, e2, e3] at g0 g1 g2 g3
  obtain ⟨s, rfl, ws⟩ := read_int Tryz.underlying3 g0
  obtain ⟨c, rfl, wc⟩ := read_int Tryz.underlying3 g1
  obtain ⟨A, cap, l, rfl, hi, hc, hm, hw⟩ := read_ints Tryz.underlying22 Tryz.underlying3 (by kernel_rfl) g2
  obtain ⟨u, rfl, wu⟩ := read_int Tryz.underlying23 g3
  unfold maxLen at hm
  exact ⟨⟨s, c, l, u⟩, A, l.length, cap, rfl, rfl, rfl, rfl, ⟨rfl, wf_i64 ws, wf_i64 wc, hi, hc, hm, fit_wf hw, wf_u64 wu⟩⟩
end
theorem SlotArg.below {w w' : World} {A : Option Addr} {n cap : Nat} {x : Slt} (h : SlotArg w A n cap x) (hb : Below w.heap.size w w') : SlotArg w' A n cap x := ⟨h.len, h.s, h.c, h.ints.below hb, h.room, h.max, h.fit, h.u⟩
theorem mkS_len (s c : Int) (l : List Int) : (mkS s c l).l.length ≤ 500 := by
 unfold mkS
 by_cases h : mkE s c l = 0
 ·rw [if_pos h]
  unfold mkE at h
  by_cases h5 : 500 < l.length
  ·rw [if_pos h5] at h; omega
  ·simp only [Slt.made]; omega
 ·rw [if_neg h]; simp [Slt.zero]
theorem wrE_len {x y : Slt} {c a : Int} {l : List Int} (h : wrE x y c l a = 0) : l.length ≤ 500 := by
 unfold wrE at h
 by_cases h5 : l.length > 500
 ·rw [if_pos h5] at h; omega
 ·omega
theorem wr_props {x y : Slt} {c a : Int} {l : List Int} (h : wrE x y c l a = 0) : fldB 0 c l = true ∧ topS x y ≠ 1000000000 ∧ (0 ≤ a ∧ a ≤ 3) ∧ l.length ≤ 500 := by
 have hl := wrE_len h
 unfold wrE at h
 rw [if_neg (by omega)] at h
 cases hF : fldB 0 c l with
 | false => rw [if_pos hF] at h; omega
 | true =>
  rw [if_neg (by simp [hF])] at h
  cases ha : wB a 0 3 with
  | false => rw [if_pos ha] at h; omega
  | true =>
   rw [if_neg (by simp [ha])] at h
   by_cases ht : topS x y = 1000000000
   ·rw [if_pos ht] at h; omega
   ·exact ⟨rfl, ht, wB_iff.1 ha, hl⟩
theorem top_in (x y : Slt) : 0 ≤ topS x y ∧ topS x y ≤ 1000000000 := by
 unfold topS
 cases hb : bestB x y with
 | false => rw [if_neg (by simp)]; omega
 | true =>
  rw [if_pos rfl]
  rcases bestI_01 x y with hI | hI
  ·rw [if_neg (by omega)]; exact ok_s (best_ok0 hb hI)
  ·rw [if_pos hI]; exact ok_s (best_ok1 hI)
theorem fld_top {x y : Slt} {c a : Int} {l : List Int} (h : wrE x y c l a = 0) : fldB (topS x y + 1) c l = true := by
 obtain ⟨h1, h2, _⟩ := wr_props h
 have h3 := top_in x y
 rw [fldB_iff] at h1 ⊢
 exact ⟨⟨by omega, h1.1.2⟩, h1.2⟩
structure SFit (x : Slt) : Prop where
 s : -9223372036854775808 ≤ x.s ∧ x.s ≤ 9223372036854775807
 c : -9223372036854775808 ≤ x.c ∧ x.c ≤ 9223372036854775807
 fit : Fit x.l
 u : 0 ≤ x.u ∧ x.u ≤ 18446744073709551615
 few : x.l.length ≤ 500
theorem sfit_zero : SFit Slt.zero := ⟨by simp only [Slt.zero]; omega, by simp only [Slt.zero]; omega, fun x hx => by simp [Slt.zero] at hx, by simp only [Slt.zero]; omega, by simp [Slt.zero]⟩
theorem sfit_wrS {x y : Slt} {c a : Int} {l : List Int} (h : wrE x y c l a = 0) (hf : Fit l) : SFit (wrS x y c l a) := by
 have h1 := fld_top h
 rw [fldB_iff] at h1
 have hu := sumS_in (topS x y + 1) c l
 refine ⟨?_, ?_, hf, ?_, wrE_len h⟩
 ·simp only [wrS]; omega
 ·simp only [wrS]; omega
 ·simp only [wrS]; split <;> omega
theorem sfit_wr {x y : Slt} {c a : Int} {l : List Int} (hx : SFit x) (hy : SFit y) (hf : Fit l) : SFit (wr0 x y c l a) ∧ SFit (wr1 x y c l a) := by
 unfold wr0 wr1
 by_cases h : wrE x y c l a = 0
 ·rw [if_pos h, if_pos h]
  constructor
  ·split
   ·exact sfit_wrS h hf
   ·exact hx
  ·split
   ·exact sfit_wrS h hf
   ·exact hy
 ·rw [if_neg h, if_neg h]; exact ⟨sfit_zero, sfit_zero⟩
theorem SFit.is {x : Slt} (h : SFit x) {w : World} {A : Option Addr} (hl : IntsAt w A .i64 x.l) : SlotIs w A x.l.length x := ⟨rfl, h.s, h.c, hl, by have := h.few; omega, h.fit, h.u⟩
theorem SlotArg.sfit {w : World} {A : Option Addr} {n cap : Nat} {x : Slt} (h : SlotArg w A n cap x) (hn : n ≤ 40) : SFit x := ⟨h.s, h.c, h.fit, h.u, by have := h.len; omega⟩
theorem stays0 {x y : Slt} {c a : Int} {l : List Int} (h : wrE x y c l a = 0) (hb : bestB x y = true) (hI : bestI x y = 0) :
  wr0 x y c l a = x ∧ bestB x (wr1 x y c l a) = true ∧ (a < 2 → bestI x (wr1 x y c l a) = 0) ∧ (2 ≤ a → bestI x (wr1 x y c l a) = 1 ∧ saysS (wr1 x y c l a) c l = true ∧ (wr1 x y c l a).s = x.s + 1) := by
 have hx := best_ok0 hb hI
 have hp := (wr_props h).2.2.1
 have hi : into0 x y = false := by simp [into0, hb, hI]
 have ht : topS x y = x.s := by simp [topS, hb, hI]
 have hF := fld_top h
 rw [ht] at hF
 have e0 : wr0 x y c l a = x := by rw [wr0, if_pos h, if_neg (by simp [hi])]
 refine ⟨e0, by simp [bestB, hx], fun h2 => ?_, fun h2 => ?_⟩
 ·by_cases ha : a = 0
  ·have : wr1 x y c l a = y := by rw [wr1, if_pos h, if_neg (by simp [ha])]
   rw [this]; exact hI
  ·have ha1 : a = 1 := by omega
   have : wr1 x y c l a = ⟨x.s + 1, c, l, (sumS (x.s + 1) c l + 1) % 18446744073709551616⟩ := by rw [wr1, if_pos h, if_pos ⟨hi, ha⟩, wrS, ht, if_pos ha1]
   rw [this, bestI, torn_ok]; simp
 ·have : wr1 x y c l a = Slt.made (x.s + 1) c l := by rw [wr1, if_pos h, if_pos ⟨hi, by omega⟩, wrS, ht, if_neg (by omega)]; rfl
  rw [this]
  refine ⟨?_, saysS_iff.2 ⟨rfl, rfl⟩, rfl⟩
  have hd : decide (x.s < (Slt.made (x.s + 1) c l).s) = true := decide_eq_true (by simp only [Slt.made]; omega)
  rw [bestI, made_ok hF, hd]; simp
theorem stays1 {x y : Slt} {c a : Int} {l : List Int} (h : wrE x y c l a = 0) (hb : bestB x y = true) (hI : bestI x y = 1) :
  wr1 x y c l a = y ∧ bestB (wr0 x y c l a) y = true ∧ (a < 2 → bestI (wr0 x y c l a) y = 1) ∧ (2 ≤ a → bestI (wr0 x y c l a) y = 0 ∧ saysS (wr0 x y c l a) c l = true ∧ (wr0 x y c l a).s = y.s + 1) := by
 have hy := best_ok1 hI
 have hp := (wr_props h).2.2.1
 have hi : into0 x y = true := by simp [into0, hI]
 have ht : topS x y = y.s := by simp [topS, hb, hI]
 have hF := fld_top h
 rw [ht] at hF
 have e0 : wr1 x y c l a = y := by rw [wr1, if_pos h, if_neg (by simp [hi])]
 refine ⟨e0, by simp [bestB, hy], fun h2 => ?_, fun h2 => ?_⟩
 ·by_cases ha : a = 0
  ·have : wr0 x y c l a = x := by rw [wr0, if_pos h, if_neg (by simp [ha])]
   rw [this]; exact hI
  ·have ha1 : a = 1 := by omega
   have : wr0 x y c l a = ⟨y.s + 1, c, l, (sumS (y.s + 1) c l + 1) % 18446744073709551616⟩ := by rw [wr0, if_pos h, if_pos ⟨hi, ha⟩, wrS, ht, if_pos ha1]
   rw [this, bestI, torn_ok, hy]; simp
 ·have : wr0 x y c l a = Slt.made (y.s + 1) c l := by rw [wr0, if_pos h, if_pos ⟨hi, by omega⟩, wrS, ht, if_neg (by omega)]; rfl
  rw [this]
  refine ⟨?_, saysS_iff.2 ⟨rfl, rfl⟩, rfl⟩
  have hd : decide ((Slt.made (y.s + 1) c l).s < y.s) = false := decide_eq_false (by simp only [Slt.made]; omega)
  rw [bestI, made_ok hF, hd]; simp
def rs (st : List Int × Int) (x : Int) : List Int × Int := if st.2 < x then (st.1 ++ [x], x) else st
def rise (l : List Int) : List Int × Int := l.foldl rs ([], 0)
section
open Go.RowKit Go.ChangeShapes Go.WideShapes Go.ChangeAt
def RowsAt {α : Type} (C : Nat) (At : World → List Value → α → Prop) (w : World) (A : Option Addr) (l : List α) : Prop :=
 ∀ i z, l[i]? = some z → ∃ b off cs, A = some ⟨b, off, none⟩ ∧ b < w.heap.size ∧ cs.length = C ∧ (∀ j, j < C → w.cell? ⟨b, off + (i * C + j), none⟩ = cs[j]?) ∧ At w cs z
theorem RowsAt.below {α : Type} {C : Nat} {At : World → List Value → α → Prop} {w w' : World} {A : Option Addr} {l : List α} (h : RowsAt C At w A l) (hmono : ∀ cs z, At w cs z → At w' cs z) (hb : Below w.heap.size w w') : RowsAt C At w' A l := fun i z hz => by
 obtain ⟨b, off, cs, e, hlt, hl, hc, ha⟩ := h i z hz
 exact ⟨b, off, cs, e, Nat.lt_of_lt_of_le hlt hb.size, hl, fun j hj => (hb.cell (p := ⟨b, off + (i * C + j), none⟩) hlt).trans (hc j hj), hmono cs z ha⟩
end
section
open Go.RowKit Go.ChangeShapes Go.WideShapes Go.ChangeAt
def NewList (L : List Int) (w : World) (e : Ending) (w' : World) : Prop := ∃ A c, e = .returned (.slice A L.length c) ∧ OwnInts w' w.heap.size 3 .i64 A c L ∧ Below w.heap.size w w'
structure Dd where
 c : Int
 l : List Int
 a : Int
def DdAt (w : World) (cs : List Value) (d : Dd) : Prop :=
 ∃ B cap, cs = [.int .u16 d.c, .slice B d.l.length cap, .int .u8 d.a] ∧ IntsAt w B .u8 d.l ∧ d.l.length ≤ cap ∧ cap ≤ 9223372036854775807 ∧ (0 ≤ d.c ∧ d.c ≤ 65535) ∧ (0 ≤ d.a ∧ d.a ≤ 255) ∧ ∀ x ∈ d.l, 0 ≤ x ∧ x ≤ 255
theorem DdAt.below {w w' : World} (hb : Below w.heap.size w w') (cs : List Value) (d : Dd) (h : DdAt w cs d) : DdAt w' cs d := by
 obtain ⟨B, cap, e, hi, h1, h2, h3, h4, h5⟩ := h
 exact ⟨B, cap, e, hi.below hb, h1, h2, h3, h4, h5⟩
end
theorem write2_ok (x y : Slt) (c at_ : Int) (A : Option Addr) (n p : Nat) (B : Option Addr) (m q : Nat) (D : Option Addr) (k r : Nat) (l : List Int) (hlk : l.length = k) (w : World) (hx : SlotIs w A n x) (hy : SlotIs w B m y) (hc : -9223372036854775808 ≤ c ∧ c ≤ 9223372036854775807) (hl : IntsAt w D .i64 l) (hf : Fit l) (ht : Tab w) (e : wrE x y c l at_ = 0) :
  Calls Tryz.prog 34 #[.agg #[.int .i64 x.s, .int .i64 x.c, .slice A n p, .int .u64 x.u, .int .i64 y.s, .int .i64 y.c, .slice B m q, .int .u64 y.u], .int .i64 c, .slice D k r, .int .i64 at_] w (SlotsErr2 A x.l B y.l (wr0 x y c l at_) (wr1 x y c l at_) 0 w) := by
 obtain ⟨hF, ht0, ha, hl5⟩ := wr_props e
 have h3 : at_ = 0 ∨ at_ = 1 ∨ at_ = 2 ∨ at_ = 3 := by omega
 cases hE : bestB x y with
 | false => exact write2_none x y c at_ A n p B m q D k r l hlk w hx hy hc hl (by omega) hf ht hF hE h3 (by omega) (by omega) e
 | true =>
  rcases bestI_01 x y with hI | hI
  ·have et : topS x y = x.s := by simp [topS, hE, hI]
   rw [et] at ht0
   exact write2_b0 x y c at_ A n p B m q D k r l hlk w hx hy hc hl (by omega) hf ht hF hE hI h3 ht0 (ok_s (best_ok0 hE hI)) e
  ·have et : topS x y = y.s := by simp [topS, hE, hI]
   rw [et] at ht0
   exact write2_b1 x y c at_ A n p B m q D k r l hlk w hx hy hc hl (by omega) hf ht hF hE hI h3 ht0 (ok_s (best_ok1 hI)) e
def Lk.zero : Lk := ⟨0, 0, 0, Slt.zero, Slt.zero, false⟩
def LockErr (A0 : Option Addr) (l0 : List Int) (B0 : Option Addr) (m0 : List Int) (r : Lk) (E : Int) (w : World) (e : Ending) (w' : World) : Prop :=
 ∃ A p B q, e = .returned (.tuple #[.agg (r.cells A r.x.l.length p B r.y.l.length q).toArray, .int .i64 E]) ∧ Prov w w' A0 l0 A r.x.l ∧ Prov w w' B0 m0 B r.y.l ∧ Below w.heap.size w w'
theorem prov_nil (w w' : World) (A0 : Option Addr) (l0 : List Int) (A : Option Addr) : Prov w w' A0 l0 A [] := ⟨fun i hi => absurd hi (by simp), .inl rfl⟩
theorem lockErr_zero {A0 : Option Addr} {l0 : List Int} {B0 : Option Addr} {m0 : List Int} {E : Int} {w w' : World} (hb : Below w.heap.size w w') :
  LockErr A0 l0 B0 m0 Lk.zero E w (.returned (.tuple #[.agg #[.int .i64 0, .int .i64 0, .int .i64 0, .int .i64 0, .int .i64 0, .slice none 0 0, .int .u64 0, .int .i64 0, .int .i64 0, .slice none 0 0, .int .u64 0, .bool false], .int .i64 E])) w' :=
 ⟨none, 0, none, 0, rfl, prov_nil _ _ _ _ _, prov_nil _ _ _ _ _, hb⟩
def pwR (l : Lk) (u : Bool) : Lk := if lvB l = true then { l with up := u } else Lk.zero
def pwE (l : Lk) : Int := if lvB l = true then 0 else 1
set_option maxHeartbeats 4000000 in
theorem lpower_any (l : Lk) (u : Bool) (A : Option Addr) (n p : Nat) (B : Option Addr) (m q : Nat) (w : World) (hx : SlotIs w A n l.x) (hy : SlotIs w B m l.y) (ht : Tab w) :
  Calls Tryz.prog 15 #[.agg (l.cells A n p B m q).toArray, .bool u] w (LockErr A l.x.l B l.y.l (pwR l u) (pwE l) w) := by
 obtain ⟨w0, hw0⟩ : ∃ W, (w.alloc (.cells (l.cells A n p B m q).toArray 28)).alloc (.cells #[.int .i64 0, .int .i64 0, .int .i64 0, .int .i64 0, .int .i64 0, .slice none 0 0, .int .u64 0, .int .i64 0, .int .i64 0, .slice none 0 0, .int .u64 0, .bool false] 28) = W := ⟨_, rfl⟩
 have bb0 : Below w.heap.size w w0 := by rw [← hw0]; exact ((Below.refl _ _).alloc (Nat.le_refl _) _).alloc (by simp) _
 have k0 : Blk w0 w.heap.size (l.cells A n p B m q).toArray := by rw [← hw0]; exact (blk_new rfl).alloc _
 have g0 : Blk w0 (w.heap.size + 1) #[.int .i64 0, .int .i64 0, .int .i64 0, .int .i64 0, .int .i64 0, .slice none 0 0, .int .u64 0, .int .i64 0, .int .i64 0, .slice none 0 0, .int .u64 0, .bool false] := by rw [← hw0]; exact blk_new (by simp)
 have q1 := lvalid_any l A n p B m q w0 (hx.below bb0) (hy.below bb0) (ht.below bb0)
 cases hv : lvB l with
 | false =>
  have e1 : pwR l u = Lk.zero := by simp [pwR, hv]
  have e2 : pwE l = 1 := by simp [pwE, hv]
  rw [hv] at q1
  rw [e1, e2]
  unfold Lk.cells at k0 hw0 q1 ⊢
  have ⟨H_bb0, H_k0, H_g0, H_hw0, H_q1, H_hx, H_hy, H_ht⟩ := hid8 bb0 k0 g0 hw0 q1 hx hy ht; clear bb0 k0 g0 hw0 q1 hx hy ht
  go_enter Tryz.func15, Tryz.ntmps15
  go_wp2_with fail
  rw [H_hw0.out]
  obtain ⟨y0, y1, y2, y3, y4, y5, y6, y7, y8, y9, y10, y11⟩ := at12_of H_k0.out
  go_wp2_with fail
  (with_reducible refine (H_q1.out).mono ?_)
  rintro e w1 ⟨rfl, b1⟩
  have c1 : Below w0.heap.size w0 w1 := Below.trans belt (b1.mono omh)
  have s1 := c1.size
  have bb1 := H_bb0.out.trans (c1.mono H_bb0.out.size)
  have k1 := H_k0.out.below c1
  have g1 := H_g0.out.below c1
  have ⟨H_b1, H_c1, H_bb1, H_k1, H_g1⟩ := hid5 b1 c1 bb1 k1 g1; clear b1 c1 bb1 k1 g1
  clear y0 y1 y2 y3 y4 y5 y6 y7 y8 y9 y10 y11
  obtain ⟨z0, z1, z2, z3, z4, z5, z6, z7, z8, z9, z10, z11⟩ := at12_of H_g1.out
  have lz := (H_g1.out 0 _ rfl).lt
  have b2 : Below w.heap.size w (putL w1 (w.heap.size + 1) 0 [.int .i64 0, .int .i64 0, .int .i64 0, .int .i64 0, .int .i64 0, .slice none 0 0, .int .u64 0, .int .i64 0, .int .i64 0, .slice none 0 0, .int .u64 0, .bool false]) := putL_below (by omega) _ _ _ H_bb1.out
  simp only [putL, Nat.reduceAdd] at b2
  have H_b2 := Lib.hid b2; clear b2
  obtain ⟨f0, f1, f2, f3, f4, f5, f6, f7, f8, f9, f10, f11⟩ := free12_of H_g1.out
  go_wp2_with fail
  refine bodyPost_ret (v := .tuple #[.agg #[.int .i64 0, .int .i64 0, .int .i64 0, .int .i64 0, .int .i64 0, .slice none 0 0, .int .u64 0, .int .i64 0, .int .i64 0, .slice none 0 0, .int .u64 0, .bool false], .int .i64 1]) (by simp [results, Tryz.results15, go_sem, *]) rfl (lockErr_zero H_b2.out)
 | true =>
  have e1 : pwR l u = { l with up := u } := by simp [pwR, hv]
  have e2 : pwE l = 0 := by simp [pwE, hv]
  have hn := hx.len
  have hm := hy.len
  subst hn hm
  rw [hv] at q1
  rw [e1, e2]
  unfold LockErr Lk.cells
  unfold Lk.cells at k0 hw0 q1
  have ⟨H_bb0, H_k0, H_g0, H_hw0, H_q1, H_hx, H_hy, H_ht⟩ := hid8 bb0 k0 g0 hw0 q1 hx hy ht; clear bb0 k0 g0 hw0 q1 hx hy ht
  go_enter Tryz.func15, Tryz.ntmps15
  go_wp2_with fail
  rw [H_hw0.out]
  obtain ⟨y0, y1, y2, y3, y4, y5, y6, y7, y8, y9, y10, y11⟩ := at12_of H_k0.out
  go_wp2_with fail
  (with_reducible refine (H_q1.out).mono ?_)
  rintro e w1 ⟨rfl, b1⟩
  have c1 : Below w0.heap.size w0 w1 := Below.trans belt (b1.mono omh)
  have s1 := c1.size
  have bb1 := H_bb0.out.trans (c1.mono H_bb0.out.size)
  have k1 := H_k0.out.below c1
  have g1 := H_g0.out.below c1
  have ⟨H_b1, H_c1, H_bb1, H_k1, H_g1⟩ := hid5 b1 c1 bb1 k1 g1; clear b1 c1 bb1 k1 g1
  clear y0 y1 y2 y3 y4 y5 y6 y7 y8 y9 y10 y11
  obtain ⟨y0, y1, y2, y3, y4, y5, y6, y7, y8, y9, y10, y11⟩ := at12_of H_k1.out
  obtain ⟨z0, z1, z2, z3, z4, z5, z6, z7, z8, z9, z10, z11⟩ := at12_of H_g1.out
  have ly := (H_k1.out 0 _ rfl).lt
  have lz := (H_g1.out 0 _ rfl).lt
  have b2 : Below w.heap.size w (putL (putL w1 w.heap.size 11 [.bool u]) (w.heap.size + 1) 0 [.int .i64 l.d, .int .i64 l.k, .int .i64 l.r, .int .i64 l.x.s, .int .i64 l.x.c, .slice A l.x.l.length p, .int .u64 l.x.u, .int .i64 l.y.s, .int .i64 l.y.c, .slice B l.y.l.length q, .int .u64 l.y.u, .bool u]) := putL_below (by omega) _ _ _ (putL_below (Nat.le_refl _) _ _ _ H_bb1.out)
  simp only [putL, Nat.reduceAdd] at b2
  have H_b2 := Lib.hid b2; clear b2
  have fk := (H_k1.out 11 _ rfl).free
  obtain ⟨f0, f1, f2, f3, f4, f5, f6, f7, f8, f9, f10, f11⟩ := free12_of H_g1.out
  go_wp2_with fail
  refine bodyPost_ret (v := .tuple #[.agg #[.int .i64 l.d, .int .i64 l.k, .int .i64 l.r, .int .i64 l.x.s, .int .i64 l.x.c, .slice A l.x.l.length p, .int .u64 l.x.u, .int .i64 l.y.s, .int .i64 l.y.c, .slice B l.y.l.length q, .int .u64 l.y.u, .bool u], .int .i64 0]) (by simp [results, Tryz.results15, go_sem, *]) rfl ⟨A, p, B, q, rfl, prov_old (H_hx.out.below H_b2.out).ints, prov_old (H_hy.out.below H_b2.out).ints, H_b2.out⟩
end Go.Proofs.YtoehobaigfmnpaaGreatDoor
