/- Write where it may, and where its lists lie. -/
import Derived.Lib.SmallJoins
import Derived.Deep.Slices
import Derived.Test.YtoehobaigfmnpaaDoorMr2
import Derived.Test.YtoehobaigfmnpaaDoorMr11
import Derived.Test.YtoehobaigfmnpaaDoorMr12
import Derived.Test.YtoehobaigfmnpaaDoorMr16
import Derived.Test.YtoehobaigfmnpaaDoorMr18
import Derived.Test.YtoehobaigfmnpaaDoorMr19
import Derived.Test.YtoehobaigfmnpaaDoorMr20
import Derived.Test.YtoehobaigfmnpaaDoorMr22
section
namespace Go.Proofs.YtoehobaigfmnpaaDoor
set_option linter.unusedSimpArgs false
set_option linter.unusedVariables false
set_option maxRecDepth 100000
open Go.RowKit
/-- Make, whatever it is called with -/
def mkE (s c : Int) (l : List Int) : Int := if 500 < l.length then 2 else if fldB s c l = true then 0 else 1
def mkS (s c : Int) (l : List Int) : Slt := if mkE s c l = 0 then Slt.made s c l else Slt.zero
theorem make_any (s c : Int) (A : Option Addr) (cap n : Nat) (l : List Int) (hln : l.length = n) (w : World) (hs : -9223372036854775808 ≤ s ∧ s ≤ 9223372036854775807) (hc : -9223372036854775808 ≤ c ∧ c ≤ 9223372036854775807) (hl : IntsAt w A .i64 l) (hn : n ≤ 9223372036854775807) (hf : Fit l) (ht : Tab w) :
    Calls Tryd.prog 68 #[.int .i64 s, .int .i64 c, .slice A n cap] w (SlotErr (mkS s c l) (mkE s c l) w) := by
  by_cases h : 500 < n
  · have e : mkE s c l = 2 := by rw [mkE, if_pos (by omega)]
    rw [mkS, e, if_neg (by omega)]; exact make_long s c A cap n w h hn
  · cases hF : fldB s c l with
    | true =>
      have e : mkE s c l = 0 := by rw [mkE, if_neg (by omega), if_pos hF]
      rw [mkS, e, if_pos rfl]; exact make_ok s c A cap n l hln w hs hc hl (by omega) hf ht hF
    | false =>
      have e : mkE s c l = 1 := by rw [mkE, if_neg (by omega), if_neg (by simp [hF])]
      rw [mkS, e, if_neg (by omega)]; exact make_bad s c A cap n l hln w hs hc hl (by omega) hf ht hF
theorem dec0 : decB 0 = [48] := by rw [decB, Lib.itoa, if_neg (by omega), Lib.decDigits]; rfl
theorem sum_zero : sumS 0 0 [] ≠ 0 := by
  have e : textB 0 [0, 0] = [0, 0, 0, 0, 0, 0, 0, 0, 48, 32, 48, 32] := by
    rw [textB, wordsB, List.flatMap_cons, List.flatMap_cons, dec0]; decide +kernel
  rw [sumS, nextB, e]
  decide +kernel
theorem zero_ok : Slt.zero.ok = false := by
  have : (sumS 0 0 [] == 0) = false := by rw [beq_eq_false_iff_ne]; exact sum_zero
  simp only [Slt.zero, Slt.ok, vldB, this, Bool.and_false]
theorem made_ok {s c : Int} {l : List Int} (h : fldB s c l = true) : (Slt.made s c l).ok = true := by
  simp only [Slt.ok, Slt.made, vldB, h, Bool.true_and, beq_self_eq_true]
theorem torn_ok (s c : Int) (l : List Int) : (⟨s, c, l, (sumS s c l + 1) % 18446744073709551616⟩ : Slt).ok = false := by
  have h := sumS_in s c l
  have : (sumS s c l == (sumS s c l + 1) % 18446744073709551616) = false := by rw [beq_eq_false_iff_ne]; omega
  simp only [Slt.ok, vldB, this, Bool.and_false]
theorem fldB_iff {s c : Int} {l : List Int} : fldB s c l = true ↔ ((0 ≤ s ∧ s ≤ 1000000000) ∧ (0 ≤ c ∧ c ≤ 1000000000) ∧ l.length ≤ 500) ∧ risB 0 l = true := by
  simp only [fldB, Bool.and_eq_true, cntB, wB_iff, len5B, decide_eq_true_eq]
  exact ⟨fun ⟨⟨⟨h1, h2⟩, h3⟩, h4⟩ => ⟨⟨h1, h2, h3⟩, h4⟩, fun ⟨⟨h1, h2, h3⟩, h4⟩ => ⟨⟨⟨h1, h2⟩, h3⟩, h4⟩⟩
theorem slotIs_zero (w : World) (A : Option Addr) : SlotIs w A 0 Slt.zero := ⟨rfl, by simp only [Slt.zero]; omega, by simp only [Slt.zero]; omega, IntsAt.nil, by omega, fun x hx => by simp [Slt.zero] at hx, by simp only [Slt.zero]; omega⟩

end Go.Proofs.YtoehobaigfmnpaaDoor
end
section
namespace Go.Proofs.YtoehobaigfmnpaaDoor
set_option linter.unusedSimpArgs false
set_option linter.unusedVariables false
set_option maxRecDepth 100000
open Go.RowKit
theorem best0 : bestI Slt.zero Slt.zero = 0 ∧ bestB Slt.zero Slt.zero = false := by simp [bestI, bestB, zero_ok]
end Go.Proofs.YtoehobaigfmnpaaDoor
end
section
namespace Go.Proofs.YtoehobaigfmnpaaDoor
set_option linter.unusedSimpArgs false
set_option linter.unusedVariables false
set_option maxRecDepth 100000
open Go.RowKit Go.ChangeShapes Go.WideShapes Go.ChangeAt
/-- a slice of integers, read out of its one cell -/
theorem read_ints {H : Type} {enc : TypeId × Value → H} {P : Program} {W : World} {held : Bool} {t e : TypeId} {k : IntKind} {v : Value} {fuel : Nat} {y : DataW H × List MemPlace} (ht : P.underlying t = some (.slice e)) (he : P.underlying e = some (.int k)) (hc : P.cellsOf e = 1)
    (hf : DataW.trod enc P W 0 (fun _ => true) held fuel t [v] = some y) : ∃ A c l, v = .slice A l.length c ∧ IntsAt W A k l ∧ l.length ≤ c ∧ c ≤ maxLen ∧ ∀ n ∈ l, (Lit.int k n).wf = true := by
  rcases open_ints ht he hc hf with ⟨hcs, _⟩ | ⟨a, len', cap', zs, hcs, _, hle, hmax, hall, _, hcell, hwf⟩
  · have : v = .slice none 0 0 := by simpa using hcs
    subst this
    exact ⟨none, 0, [], rfl, IntsAt.nil, by simp, by simp, by simp⟩
  · have : v = .slice (some a) len' cap' := by simpa using hcs
    subst this
    simp only [if_true] at hall
    refine ⟨some a, cap', zs.take len', ?_, IntsAt.take (ints_of_cells hcell) len', ?_, hmax, fun n hn => hwf n (List.mem_of_mem_take hn)⟩
    · congr 1; simp; omega
    · simp; omega
theorem read_int {H : Type} {enc : TypeId × Value → H} {P : Program} {W : World} {held : Bool} {t : TypeId} {k : IntKind} {v : Value} {fuel : Nat} {y : DataW H × List MemPlace} (ht : P.underlying t = some (.int k))
    (hf : DataW.trod enc P W 0 (fun _ => true) held fuel t [v] = some y) : ∃ n, v = .int k n ∧ (Lit.int k n).wf = true := by
  obtain ⟨a, ea, _, w⟩ := DataW.trod_int ht hf
  exact ⟨a, by simpa using ea, w⟩

theorem fit_wf {l : List Int} (h : ∀ n ∈ l, (Lit.int .i64 n).wf = true) : Fit l := fun x hx => wf_i64 (h x hx)
end Go.Proofs.YtoehobaigfmnpaaDoor
end
section
namespace Go.Proofs.YtoehobaigfmnpaaDoor
set_option linter.unusedSimpArgs false
set_option linter.unusedVariables false
set_option maxRecDepth 100000
open Go.RowKit Go.ChangeShapes Go.WideShapes Go.ChangeAt
/-- a slot that came in -/
structure SlotArg (w : World) (A : Option Addr) (n cap : Nat) (x : Slt) : Prop where
  len : x.l.length = n
  s : -9223372036854775808 ≤ x.s ∧ x.s ≤ 9223372036854775807
  c : -9223372036854775808 ≤ x.c ∧ x.c ≤ 9223372036854775807
  ints : IntsAt w A .i64 x.l
  room : n ≤ cap
  max : cap ≤ 9223372036854775807
  fit : Fit x.l
  u : 0 ≤ x.u ∧ x.u ≤ 18446744073709551615
theorem SlotArg.is {w : World} {A : Option Addr} {n cap : Nat} {x : Slt} (h : SlotArg w A n cap x) (hn : n ≤ 40) : SlotIs w A n x := ⟨h.len, h.s, h.c, h.ints, by omega, h.fit, h.u⟩

theorem read_slot {H : Type} {enc : TypeId × Value → H} {W : World} {held : Bool} {fuel : Nat} {c0 c1 c2 c3 : Value} {x : DataW H × List MemPlace} (h : DataW.trod enc Tryd.prog W 0 (fun _ => true) held fuel 52 [c0, c1, c2, c3] = some x) :
    ∃ (z : Slt) (A : Option Addr) (n cap : Nat), c0 = .int .i64 z.s ∧ c1 = .int .i64 z.c ∧ c2 = .slice A n cap ∧ c3 = .int .u64 z.u ∧ SlotArg W A n cap z := by
  obtain ⟨xs, n, _, _, _, hlen, hg⟩ := DataW.trod_struct Tryd.underlying52 h
  have hl : xs.length = 4 := hlen
  match xs, hl with
  | [y0, y1, y2, y3], _ =>
    have e1 : Tryd.prog.cellsOf 3 = 1 := by kernel_rfl
    have e2 : Tryd.prog.cellsOf 45 = 1 := by kernel_rfl
    have e3 : Tryd.prog.cellsOf 50 = 1 := by kernel_rfl
    have g0 := hg 0 _ rfl
    have g1 := hg 1 _ rfl
    have g2 := hg 2 _ rfl
    have g3 := hg 3 _ rfl
    simp [e1, e2, e3] at g0 g1 g2 g3
    obtain ⟨s, rfl, ws⟩ := read_int Tryd.underlying3 g0
    obtain ⟨c, rfl, wc⟩ := read_int Tryd.underlying3 g1
    obtain ⟨A, cap, l, rfl, hi, hc, hm, hw⟩ := read_ints Tryd.underlying45 Tryd.underlying3 (by kernel_rfl) g2
    obtain ⟨u, rfl, wu⟩ := read_int Tryd.underlying50 g3
    unfold maxLen at hm
    exact ⟨⟨s, c, l, u⟩, A, l.length, cap, rfl, rfl, rfl, rfl, ⟨rfl, wf_i64 ws, wf_i64 wc, hi, hc, hm, fit_wf hw, wf_u64 wu⟩⟩
end Go.Proofs.YtoehobaigfmnpaaDoor
end
section
namespace Go.Proofs.YtoehobaigfmnpaaDoor
set_option linter.unusedSimpArgs false
set_option linter.unusedVariables false
set_option maxRecDepth 100000
open Go.RowKit
theorem SlotArg.below {w w' : World} {A : Option Addr} {n cap : Nat} {x : Slt} (h : SlotArg w A n cap x) (hb : Below w.heap.size w w') : SlotArg w' A n cap x := ⟨h.len, h.s, h.c, h.ints.below hb, h.room, h.max, h.fit, h.u⟩
end Go.Proofs.YtoehobaigfmnpaaDoor
end
section
namespace Go.Proofs.YtoehobaigfmnpaaDoor
set_option linter.unusedSimpArgs false
set_option linter.unusedVariables false
set_option maxRecDepth 100000
open Go.RowKit
theorem mkS_len (s c : Int) (l : List Int) : (mkS s c l).l.length ≤ 500 := by
  unfold mkS
  by_cases h : mkE s c l = 0
  · rw [if_pos h]
    unfold mkE at h
    by_cases h5 : 500 < l.length
    · rw [if_pos h5] at h; omega
    · simp only [Slt.made]; omega
  · rw [if_neg h]; simp [Slt.zero]
theorem wrE_len {x y : Slt} {c a : Int} {l : List Int} (h : wrE x y c l a = 0) : l.length ≤ 500 := by
  unfold wrE at h
  by_cases h5 : l.length > 500
  · rw [if_pos h5] at h; omega
  · omega
end Go.Proofs.YtoehobaigfmnpaaDoor
end
section
namespace Go.Proofs.YtoehobaigfmnpaaDoor
set_option linter.unusedSimpArgs false
set_option linter.unusedVariables false
set_option maxRecDepth 100000
open Go.RowKit
theorem wr_props {x y : Slt} {c a : Int} {l : List Int} (h : wrE x y c l a = 0) : fldB 0 c l = true ∧ topS x y ≠ 1000000000 ∧ (0 ≤ a ∧ a ≤ 3) ∧ l.length ≤ 500 := by
  have hl := wrE_len h
  unfold wrE at h
  rw [if_neg (by omega)] at h
  cases hF : fldB 0 c l with
  | false => rw [if_pos hF] at h; omega
  | true =>
    rw [if_neg (by simp [hF])] at h
    cases ha : wB a 0 3 with
    | false => rw [if_pos ha] at h; omega
    | true =>
      rw [if_neg (by simp [ha])] at h
      by_cases ht : topS x y = 1000000000
      · rw [if_pos ht] at h; omega
      · exact ⟨rfl, ht, wB_iff.1 ha, hl⟩
theorem top_in (x y : Slt) : 0 ≤ topS x y ∧ topS x y ≤ 1000000000 := by
  unfold topS
  cases hb : bestB x y with
  | false => rw [if_neg (by simp)]; omega
  | true =>
    rw [if_pos rfl]
    rcases bestI_01 x y with hI | hI
    · rw [if_neg (by omega)]; exact ok_s (best_ok0 hb hI)
    · rw [if_pos hI]; exact ok_s (best_ok1 hI)
theorem fld_top {x y : Slt} {c a : Int} {l : List Int} (h : wrE x y c l a = 0) : fldB (topS x y + 1) c l = true := by
  obtain ⟨h1, h2, _⟩ := wr_props h
  have h3 := top_in x y
  rw [fldB_iff] at h1 ⊢
  exact ⟨⟨by omega, h1.1.2⟩, h1.2⟩
/-- the fields of a slot are integers -/
structure SFit (x : Slt) : Prop where
  s : -9223372036854775808 ≤ x.s ∧ x.s ≤ 9223372036854775807
  c : -9223372036854775808 ≤ x.c ∧ x.c ≤ 9223372036854775807
  fit : Fit x.l
  u : 0 ≤ x.u ∧ x.u ≤ 18446744073709551615
  few : x.l.length ≤ 500
theorem sfit_zero : SFit Slt.zero := ⟨by simp only [Slt.zero]; omega, by simp only [Slt.zero]; omega, fun x hx => by simp [Slt.zero] at hx, by simp only [Slt.zero]; omega, by simp [Slt.zero]⟩
theorem sfit_wrS {x y : Slt} {c a : Int} {l : List Int} (h : wrE x y c l a = 0) (hf : Fit l) : SFit (wrS x y c l a) := by
  have h1 := fld_top h
  rw [fldB_iff] at h1
  have hu := sumS_in (topS x y + 1) c l
  refine ⟨?_, ?_, hf, ?_, wrE_len h⟩
  · simp only [wrS]; omega
  · simp only [wrS]; omega
  · simp only [wrS]; split <;> omega
theorem sfit_wr {x y : Slt} {c a : Int} {l : List Int} (hx : SFit x) (hy : SFit y) (hf : Fit l) : SFit (wr0 x y c l a) ∧ SFit (wr1 x y c l a) := by
  unfold wr0 wr1
  by_cases h : wrE x y c l a = 0
  · rw [if_pos h, if_pos h]
    constructor
    · split
      · exact sfit_wrS h hf
      · exact hx
    · split
      · exact sfit_wrS h hf
      · exact hy
  · rw [if_neg h, if_neg h]; exact ⟨sfit_zero, sfit_zero⟩
theorem SFit.is {x : Slt} (h : SFit x) {w : World} {A : Option Addr} (hl : IntsAt w A .i64 x.l) : SlotIs w A x.l.length x := ⟨rfl, h.s, h.c, hl, by have := h.few; omega, h.fit, h.u⟩
theorem SlotArg.sfit {w : World} {A : Option Addr} {n cap : Nat} {x : Slt} (h : SlotArg w A n cap x) (hn : n ≤ 40) : SFit x := ⟨h.s, h.c, h.fit, h.u, by have := h.len; omega⟩
/-- what a write makes of two slots of which the first one is the best -/
theorem stays0 {x y : Slt} {c a : Int} {l : List Int} (h : wrE x y c l a = 0) (hb : bestB x y = true) (hI : bestI x y = 0) :
    wr0 x y c l a = x ∧ bestB x (wr1 x y c l a) = true ∧ (a < 2 → bestI x (wr1 x y c l a) = 0) ∧ (2 ≤ a → bestI x (wr1 x y c l a) = 1 ∧ saysS (wr1 x y c l a) c l = true ∧ (wr1 x y c l a).s = x.s + 1) := by
  have hx := best_ok0 hb hI
  have hp := (wr_props h).2.2.1
  have hi : into0 x y = false := by simp [into0, hb, hI]
  have ht : topS x y = x.s := by simp [topS, hb, hI]
  have hF := fld_top h
  rw [ht] at hF
  have e0 : wr0 x y c l a = x := by rw [wr0, if_pos h, if_neg (by simp [hi])]
  refine ⟨e0, by simp [bestB, hx], fun h2 => ?_, fun h2 => ?_⟩
  · by_cases ha : a = 0
    · have : wr1 x y c l a = y := by rw [wr1, if_pos h, if_neg (by simp [ha])]
      rw [this]; exact hI
    · have ha1 : a = 1 := by omega
      have : wr1 x y c l a = ⟨x.s + 1, c, l, (sumS (x.s + 1) c l + 1) % 18446744073709551616⟩ := by rw [wr1, if_pos h, if_pos ⟨hi, ha⟩, wrS, ht, if_pos ha1]
      rw [this, bestI, torn_ok]; simp
  · have : wr1 x y c l a = Slt.made (x.s + 1) c l := by rw [wr1, if_pos h, if_pos ⟨hi, by omega⟩, wrS, ht, if_neg (by omega)]; rfl
    rw [this]
    refine ⟨?_, saysS_iff.2 ⟨rfl, rfl⟩, rfl⟩
    have hd : decide (x.s < (Slt.made (x.s + 1) c l).s) = true := decide_eq_true (by simp only [Slt.made]; omega)
    rw [bestI, made_ok hF, hd]; simp
theorem stays1 {x y : Slt} {c a : Int} {l : List Int} (h : wrE x y c l a = 0) (hb : bestB x y = true) (hI : bestI x y = 1) :
    wr1 x y c l a = y ∧ bestB (wr0 x y c l a) y = true ∧ (a < 2 → bestI (wr0 x y c l a) y = 1) ∧ (2 ≤ a → bestI (wr0 x y c l a) y = 0 ∧ saysS (wr0 x y c l a) c l = true ∧ (wr0 x y c l a).s = y.s + 1) := by
  have hy := best_ok1 hI
  have hp := (wr_props h).2.2.1
  have hi : into0 x y = true := by simp [into0, hI]
  have ht : topS x y = y.s := by simp [topS, hb, hI]
  have hF := fld_top h
  rw [ht] at hF
  have e0 : wr1 x y c l a = y := by rw [wr1, if_pos h, if_neg (by simp [hi])]
  refine ⟨e0, by simp [bestB, hy], fun h2 => ?_, fun h2 => ?_⟩
  · by_cases ha : a = 0
    · have : wr0 x y c l a = x := by rw [wr0, if_pos h, if_neg (by simp [ha])]
      rw [this]; exact hI
    · have ha1 : a = 1 := by omega
      have : wr0 x y c l a = ⟨y.s + 1, c, l, (sumS (y.s + 1) c l + 1) % 18446744073709551616⟩ := by rw [wr0, if_pos h, if_pos ⟨hi, ha⟩, wrS, ht, if_pos ha1]
      rw [this, bestI, torn_ok, hy]; simp
  · have : wr0 x y c l a = Slt.made (y.s + 1) c l := by rw [wr0, if_pos h, if_pos ⟨hi, by omega⟩, wrS, ht, if_neg (by omega)]; rfl
    rw [this]
    refine ⟨?_, saysS_iff.2 ⟨rfl, rfl⟩, rfl⟩
    have hd : decide ((Slt.made (y.s + 1) c l).s < y.s) = false := decide_eq_false (by simp only [Slt.made]; omega)
    rw [bestI, made_ok hF, hd]; simp
end Go.Proofs.YtoehobaigfmnpaaDoor
end
section
namespace Go.Proofs.YtoehobaigfmnpaaDoor
set_option linter.unusedSimpArgs false
set_option linter.unusedVariables false
set_option maxRecDepth 100000
open Go.RowKit
def rs (st : List Int × Int) (x : Int) : List Int × Int := if st.2 < x then (st.1 ++ [x], x) else st
def rise (l : List Int) : List Int × Int := l.foldl rs ([], 0)
end Go.Proofs.YtoehobaigfmnpaaDoor
end
section
namespace Go.Proofs.YtoehobaigfmnpaaDoor
set_option linter.unusedSimpArgs false
set_option linter.unusedVariables false
set_option maxRecDepth 100000
open Go.RowKit Go.ChangeShapes Go.WideShapes Go.ChangeAt
/-- the slice over A holds the elements l, each in C cells that read by At -/
def RowsAt {α : Type} (C : Nat) (At : World → List Value → α → Prop) (w : World) (A : Option Addr) (l : List α) : Prop :=
  ∀ i z, l[i]? = some z → ∃ b off cs, A = some ⟨b, off, none⟩ ∧ b < w.heap.size ∧ cs.length = C ∧ (∀ j, j < C → w.cell? ⟨b, off + (i * C + j), none⟩ = cs[j]?) ∧ At w cs z
theorem RowsAt.below {α : Type} {C : Nat} {At : World → List Value → α → Prop} {w w' : World} {A : Option Addr} {l : List α} (h : RowsAt C At w A l) (hmono : ∀ cs z, At w cs z → At w' cs z) (hb : Below w.heap.size w w') : RowsAt C At w' A l := fun i z hz => by
  obtain ⟨b, off, cs, e, hlt, hl, hc, ha⟩ := h i z hz
  exact ⟨b, off, cs, e, Nat.lt_of_lt_of_le hlt hb.size, hl, fun j hj => (hb.cell (p := ⟨b, off + (i * C + j), none⟩) hlt).trans (hc j hj), hmono cs z ha⟩
theorem RowsAt.nil {α : Type} {C : Nat} {At : World → List Value → α → Prop} {w : World} {A : Option Addr} : RowsAt C At w A ([] : List α) := fun i z h => by simp at h
theorem list_of {α : Type} {Q : Nat → α → Prop} : ∀ n, (∀ i, i < n → ∃ z, Q i z) → ∃ l : List α, l.length = n ∧ ∀ i z, l[i]? = some z → Q i z
  | 0, _ => ⟨[], rfl, fun i z h => by simp at h⟩
  | n + 1, h => by
    obtain ⟨l, hl, hq⟩ := list_of n (fun i hi => h i (by omega))
    obtain ⟨z, hz⟩ := h n (by omega)
    refine ⟨l ++ [z], by simp [hl], fun i y hy => ?_⟩
    rcases Nat.lt_or_ge i l.length with h1 | h1
    · rw [List.getElem?_append_left h1] at hy; exact hq i y hy
    · rw [List.getElem?_append_right h1] at hy
      have h0 : i - l.length = 0 := by
        rcases Nat.eq_zero_or_pos (i - l.length) with h2 | h2
        · exact h2
        · rw [List.getElem?_eq_none (by simp; omega)] at hy; cases hy
      rw [h0] at hy
      have : i = n := by omega
      subst this
      have : z = y := by simpa using hy
      rw [← this]; exact hz
theorem addr_add_add {a : Addr} {w : World} {v : Value} {i j : Nat} (h : w.cell? ((a.add i).add j) = some v) (h0 : a.spot = none) : w.cell? ⟨a.block, a.off + (i + j), none⟩ = some v := by
  rw [Go.Deep.add_add] at h
  exact addr_add h h0
theorem read_rows {H : Type} {enc : TypeId × Value → H} {P : Program} {W : World} {held : Bool} {t e : TypeId} {v : Value} {fuel : Nat} {y : DataW H × List MemPlace} {α : Type} {C : Nat} {At : World → List Value → α → Prop} (hC0 : 0 < C) (ht : P.underlying t = some (.slice e)) (hC : P.cellsOf e = C)
    (rd : ∀ (fuel : Nat) (cs : List Value) (x : DataW H × List MemPlace), cs.length = C → DataW.trod enc P W 0 (fun _ => true) held fuel e cs = some x → ∃ z, At W cs z)
    (hf : DataW.trod enc P W 0 (fun _ => true) held fuel t [v] = some y) : ∃ A c l, v = .slice A l.length c ∧ RowsAt C At W A l ∧ l.length ≤ c ∧ c ≤ maxLen := by
  rcases Go.Deep.open_slice ht hf with ⟨hcs, _⟩ | ⟨a, len, cap, m, n, D, Pl, hcs, _, hle, hmax, hm, _, hel⟩
  · have : v = .slice none 0 0 := by simpa using hcs
    subst this
    exact ⟨none, 0, [], rfl, RowsAt.nil, by simp, by simp⟩
  · have : v = .slice (some a) len cap := by simpa using hcs
    subst this
    simp only [if_true] at hm
    rw [hC] at hel
    obtain ⟨l, hl, hq⟩ := list_of (Q := fun i z => ∃ b off cs, some a = some ⟨b, off, none⟩ ∧ b < W.heap.size ∧ cs.length = C ∧ (∀ j, j < C → W.cell? ⟨b, off + (i * C + j), none⟩ = cs[j]?) ∧ At W cs z) len (fun i hi => by
      obtain ⟨cs, hc, htr⟩ := hel i (by omega)
      obtain ⟨_, hcl, hat⟩ := World.cells?_some hc
      obtain ⟨z, hz⟩ := rd n cs _ hcl htr
      obtain ⟨cs0, hc0, _⟩ := hel 0 (by omega)
      obtain ⟨_, hcl0, hat0⟩ := World.cells?_some hc0
      have h00 := hat0 0 hC0
      rw [List.getElem?_eq_getElem (by omega)] at h00
      have h01 : W.cell? a = some (cs0[0]'(by omega)) := by simpa [Addr.add] using h00
      have hs := World.cell?_spot h01
      refine ⟨z, a.block, a.off, cs, by obtain ⟨b, o, s⟩ := a; simp at hs; subst hs; rfl, cell_lt h01, hcl, fun j hj => ?_, hz⟩
      have hj2 := hat j hj
      rw [List.getElem?_eq_getElem (by omega)] at hj2 ⊢
      exact addr_add_add hj2 hs)
    subst hl
    exact ⟨some a, cap, l, rfl, fun i z hz => hq i z hz, hle, hmax⟩
end Go.Proofs.YtoehobaigfmnpaaDoor
end
section
namespace Go.Proofs.YtoehobaigfmnpaaDoor
set_option linter.unusedSimpArgs false
set_option linter.unusedVariables false
set_option maxRecDepth 100000
open Go.RowKit
theorem write2_ok (x y : Slt) (c at_ : Int) (A : Option Addr) (n p : Nat) (B : Option Addr) (m q : Nat) (D : Option Addr) (k r : Nat) (l : List Int) (hlk : l.length = k) (w : World) (hx : SlotIs w A n x) (hy : SlotIs w B m y) (hc : -9223372036854775808 ≤ c ∧ c ≤ 9223372036854775807) (hl : IntsAt w D .i64 l) (hf : Fit l) (ht : Tab w) (e : wrE x y c l at_ = 0) :
    Calls Tryd.prog 57 #[.agg #[.int .i64 x.s, .int .i64 x.c, .slice A n p, .int .u64 x.u, .int .i64 y.s, .int .i64 y.c, .slice B m q, .int .u64 y.u], .int .i64 c, .slice D k r, .int .i64 at_] w (SlotsErr2 A x.l B y.l (wr0 x y c l at_) (wr1 x y c l at_) 0 w) := by
  obtain ⟨hF, ht0, ha, hl5⟩ := wr_props e
  have h3 : at_ = 0 ∨ at_ = 1 ∨ at_ = 2 ∨ at_ = 3 := by omega
  cases hE : bestB x y with
  | false => exact write2_none x y c at_ A n p B m q D k r l hlk w hx hy hc hl (by omega) hf ht hF hE h3 (by omega) (by omega) e
  | true =>
    rcases bestI_01 x y with hI | hI
    · have et : topS x y = x.s := by simp [topS, hE, hI]
      rw [et] at ht0
      exact write2_b0 x y c at_ A n p B m q D k r l hlk w hx hy hc hl (by omega) hf ht hF hE hI h3 ht0 (ok_s (best_ok0 hE hI)) e
    · have et : topS x y = y.s := by simp [topS, hE, hI]
      rw [et] at ht0
      exact write2_b1 x y c at_ A n p B m q D k r l hlk w hx hy hc hl (by omega) hf ht hF hE hI h3 ht0 (ok_s (best_ok1 hI)) e
end Go.Proofs.YtoehobaigfmnpaaDoor
end
