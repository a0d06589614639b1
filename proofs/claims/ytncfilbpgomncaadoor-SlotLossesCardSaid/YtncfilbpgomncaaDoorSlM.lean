/- Plain facts on what a write leaves. -/
import Derived.Test.YtncfilbpgomncaaDoorSlL2
namespace Go.Proofs.YtncfilbpgomncaaDoor
set_option linter.unusedSimpArgs false
set_option linter.unusedVariables false
set_option maxRecDepth 100000
open Go.RowKit

theorem wr_props {x y : Slt} {c a : Int} {l : List Int} (h : wrE x y c l a = 0) : fldB 0 c l = true ∧ topS x y ≠ 1000000000 ∧ (0 ≤ a ∧ a ≤ 3) ∧ l.length ≤ 500 := by
  have hl := wrE_len h
  unfold wrE at h
  rw [if_neg (by omega)] at h
  cases hF : fldB 0 c l with
  | false => rw [if_pos hF] at h; omega
  | true =>
    rw [if_neg (by simp [hF])] at h
    cases ha : wB a 0 3 with
    | false => rw [if_pos ha] at h; omega
    | true =>
      rw [if_neg (by simp [ha])] at h
      by_cases ht : topS x y = 1000000000
      · rw [if_pos ht] at h; omega
      · exact ⟨rfl, ht, wB_iff.1 ha, hl⟩
theorem top_in (x y : Slt) : 0 ≤ topS x y ∧ topS x y ≤ 1000000000 := by
  unfold topS
  cases hb : bestB x y with
  | false => rw [if_neg (by simp)]; omega
  | true =>
    rw [if_pos rfl]
    rcases bestI_01 x y with hI | hI
    · rw [if_neg (by omega)]; exact ok_s (best_ok0 hb hI)
    · rw [if_pos hI]; exact ok_s (best_ok1 hI)
theorem fld_top {x y : Slt} {c a : Int} {l : List Int} (h : wrE x y c l a = 0) : fldB (topS x y + 1) c l = true := by
  obtain ⟨h1, h2, _⟩ := wr_props h
  have h3 := top_in x y
  rw [fldB_iff] at h1 ⊢
  exact ⟨⟨by omega, h1.1.2⟩, h1.2⟩
/-- the fields of a slot are integers -/
structure SFit (x : Slt) : Prop where
  s : -9223372036854775808 ≤ x.s ∧ x.s ≤ 9223372036854775807
  c : -9223372036854775808 ≤ x.c ∧ x.c ≤ 9223372036854775807
  fit : Fit x.l
  u : 0 ≤ x.u ∧ x.u ≤ 18446744073709551615
  few : x.l.length ≤ 500
theorem sfit_zero : SFit Slt.zero := ⟨by simp only [Slt.zero]; omega, by simp only [Slt.zero]; omega, fun x hx => by simp [Slt.zero] at hx, by simp only [Slt.zero]; omega, by simp [Slt.zero]⟩
theorem sfit_wrS {x y : Slt} {c a : Int} {l : List Int} (h : wrE x y c l a = 0) (hf : Fit l) : SFit (wrS x y c l a) := by
  have h1 := fld_top h
  rw [fldB_iff] at h1
  have hu := sumS_in (topS x y + 1) c l
  refine ⟨?_, ?_, hf, ?_, wrE_len h⟩
  · simp only [wrS]; omega
  · simp only [wrS]; omega
  · simp only [wrS]; split <;> omega
theorem sfit_wr {x y : Slt} {c a : Int} {l : List Int} (hx : SFit x) (hy : SFit y) (hf : Fit l) : SFit (wr0 x y c l a) ∧ SFit (wr1 x y c l a) := by
  unfold wr0 wr1
  by_cases h : wrE x y c l a = 0
  · rw [if_pos h, if_pos h]
    constructor
    · split
      · exact sfit_wrS h hf
      · exact hx
    · split
      · exact sfit_wrS h hf
      · exact hy
  · rw [if_neg h, if_neg h]; exact ⟨sfit_zero, sfit_zero⟩
theorem SFit.is {x : Slt} (h : SFit x) {w : World} {A : Option Addr} (hl : IntsAt w A .i64 x.l) : SlotIs w A x.l.length x := ⟨rfl, h.s, h.c, hl, by have := h.few; omega, h.fit, h.u⟩
theorem SlotArg.sfit {w : World} {A : Option Addr} {n cap : Nat} {x : Slt} (h : SlotArg w A n cap x) (hn : n ≤ 40) : SFit x := ⟨h.s, h.c, h.fit, h.u, by have := h.len; omega⟩
theorem zero_of {x y : Slt} {c a : Int} {l : List Int} (h : wrE x y c l a ≠ 0) : wr0 x y c l a = Slt.zero ∧ wr1 x y c l a = Slt.zero := by
  rw [wr0, wr1, if_neg h, if_neg h]; exact ⟨rfl, rfl⟩

/-- what a write makes of two slots of which the first one is the best -/
theorem stays0 {x y : Slt} {c a : Int} {l : List Int} (h : wrE x y c l a = 0) (hb : bestB x y = true) (hI : bestI x y = 0) :
    wr0 x y c l a = x ∧ bestB x (wr1 x y c l a) = true ∧ (a < 2 → bestI x (wr1 x y c l a) = 0) ∧ (2 ≤ a → bestI x (wr1 x y c l a) = 1 ∧ saysS (wr1 x y c l a) c l = true ∧ (wr1 x y c l a).s = x.s + 1) := by
  have hx := best_ok0 hb hI
  have hp := (wr_props h).2.2.1
  have hi : into0 x y = false := by simp [into0, hb, hI]
  have ht : topS x y = x.s := by simp [topS, hb, hI]
  have hF := fld_top h
  rw [ht] at hF
  have e0 : wr0 x y c l a = x := by rw [wr0, if_pos h, if_neg (by simp [hi])]
  refine ⟨e0, by simp [bestB, hx], fun h2 => ?_, fun h2 => ?_⟩
  · by_cases ha : a = 0
    · have : wr1 x y c l a = y := by rw [wr1, if_pos h, if_neg (by simp [ha])]
      rw [this]; exact hI
    · have ha1 : a = 1 := by omega
      have : wr1 x y c l a = ⟨x.s + 1, c, l, (sumS (x.s + 1) c l + 1) % 18446744073709551616⟩ := by rw [wr1, if_pos h, if_pos ⟨hi, ha⟩, wrS, ht, if_pos ha1]
      rw [this, bestI, torn_ok]; simp
  · have : wr1 x y c l a = Slt.made (x.s + 1) c l := by rw [wr1, if_pos h, if_pos ⟨hi, by omega⟩, wrS, ht, if_neg (by omega)]; rfl
    rw [this]
    refine ⟨?_, saysS_iff.2 ⟨rfl, rfl⟩, rfl⟩
    have hd : decide (x.s < (Slt.made (x.s + 1) c l).s) = true := decide_eq_true (by simp only [Slt.made]; omega)
    rw [bestI, made_ok hF, hd]; simp
theorem stays1 {x y : Slt} {c a : Int} {l : List Int} (h : wrE x y c l a = 0) (hb : bestB x y = true) (hI : bestI x y = 1) :
    wr1 x y c l a = y ∧ bestB (wr0 x y c l a) y = true ∧ (a < 2 → bestI (wr0 x y c l a) y = 1) ∧ (2 ≤ a → bestI (wr0 x y c l a) y = 0 ∧ saysS (wr0 x y c l a) c l = true ∧ (wr0 x y c l a).s = y.s + 1) := by
  have hy := best_ok1 hI
  have hp := (wr_props h).2.2.1
  have hi : into0 x y = true := by simp [into0, hI]
  have ht : topS x y = y.s := by simp [topS, hb, hI]
  have hF := fld_top h
  rw [ht] at hF
  have e0 : wr1 x y c l a = y := by rw [wr1, if_pos h, if_neg (by simp [hi])]
  refine ⟨e0, by simp [bestB, hy], fun h2 => ?_, fun h2 => ?_⟩
  · by_cases ha : a = 0
    · have : wr0 x y c l a = x := by rw [wr0, if_pos h, if_neg (by simp [ha])]
      rw [this]; exact hI
    · have ha1 : a = 1 := by omega
      have : wr0 x y c l a = ⟨y.s + 1, c, l, (sumS (y.s + 1) c l + 1) % 18446744073709551616⟩ := by rw [wr0, if_pos h, if_pos ⟨hi, ha⟩, wrS, ht, if_pos ha1]
      rw [this, bestI, torn_ok, hy]; simp
  · have : wr0 x y c l a = Slt.made (y.s + 1) c l := by rw [wr0, if_pos h, if_pos ⟨hi, by omega⟩, wrS, ht, if_neg (by omega)]; rfl
    rw [this]
    refine ⟨?_, saysS_iff.2 ⟨rfl, rfl⟩, rfl⟩
    have hd : decide ((Slt.made (y.s + 1) c l).s < y.s) = false := decide_eq_false (by simp only [Slt.made]; omega)
    rw [bestI, made_ok hF, hd]; simp
end Go.Proofs.YtncfilbpgomncaaDoor
