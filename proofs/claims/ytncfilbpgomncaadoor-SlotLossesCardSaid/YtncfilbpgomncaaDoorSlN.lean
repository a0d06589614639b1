/- Plain facts on courses of writes: rising lists, what holds after each write. -/
import Derived.Test.YtncfilbpgomncaaDoorSlL4
namespace Go.Proofs.YtncfilbpgomncaaDoor
set_option linter.unusedSimpArgs false
set_option linter.unusedVariables false
set_option maxRecDepth 100000
open Go.RowKit

def rs (st : List Int × Int) (x : Int) : List Int × Int := if st.2 < x then (st.1 ++ [x], x) else st
def rise (l : List Int) : List Int × Int := l.foldl rs ([], 0)
theorem rise_snoc (l : List Int) (k : Nat) (h : k < l.length) : rise (l.take (k + 1)) = rs (rise (l.take k)) (l.getD k 0) := by
  rw [take_snocD l k 0 h, rise, List.foldl_append]; rfl
def lastD (d : Int) (l : List Int) : Int := l.getLast?.getD d
theorem risB_snoc : ∀ (d : Int) (l : List Int) (x : Int), risB d (l ++ [x]) = (risB d l && wB x (lastD d l + 1) 1000000)
  | d, [], x => by simp [risB, lastD]
  | d, y :: r, x => by
    have ih := risB_snoc y r x
    rw [List.cons_append, risB, risB, ih, Bool.and_assoc]
    congr 2
    cases r with
    | nil => simp [lastD]
    | cons z t =>
      simp only [lastD, List.getLast?_cons_cons]
      rw [List.getLast?_eq_some_getLast (l := z :: t) (by simp)]; rfl
/-- what holds of a rising list and its last element -/
structure RInv (st : List Int × Int) : Prop where
  ris : risB 0 st.1 = true
  lo : 0 ≤ st.2
  hi : st.2 ≤ 255
  len : (st.1.length : Int) ≤ st.2
  last : lastD 0 st.1 = st.2
theorem rinv_step {st : List Int × Int} {x : Int} (h : RInv st) (hx : 0 ≤ x ∧ x ≤ 255) : RInv (rs st x) := by
  unfold rs
  split
  · rename_i hlt
    refine ⟨?_, by omega, by omega, ?_, by simp [lastD]⟩
    · have := h.lo
      rw [risB_snoc, h.ris, h.last, Bool.true_and, wB_iff]; omega
    · have := h.len; simp; omega
  · exact h
theorem rinv_foldl : ∀ (l : List Int) (st : List Int × Int), (∀ x ∈ l, 0 ≤ x ∧ x ≤ 255) → RInv st → RInv (l.foldl rs st)
  | [], _, _, h => h
  | x :: r, st, hl, h => rinv_foldl r (rs st x) (fun y hy => hl y (by simp [hy])) (rinv_step h (hl x (by simp)))
theorem rinv_rise (l : List Int) (hl : ∀ x ∈ l, 0 ≤ x ∧ x ≤ 255) : RInv (rise l) := rinv_foldl l _ hl ⟨rfl, by simp, by simp, by simp, rfl⟩
theorem rise_fld {l : List Int} {c : Int} (hl : ∀ x ∈ l, 0 ≤ x ∧ x ≤ 255) (hc : 0 ≤ c ∧ c ≤ 65535) : fldB 0 c (rise l).1 = true := by
  have h := rinv_rise l hl
  have h1 := h.len
  have h2 := h.hi
  rw [fldB_iff]; exact ⟨⟨by omega, by omega, by omega⟩, h.ris⟩
theorem rise_fit {l : List Int} (hl : ∀ x ∈ l, 0 ≤ x ∧ x ≤ 255) : Fit (rise l).1 := fun x hx => by
  have := ris_in (d := 0) (by omega) (rinv_rise l hl).ris x hx
  omega
theorem rise_len {l : List Int} (hl : ∀ x ∈ l, 0 ≤ x ∧ x ≤ 255) : (rise l).1.length ≤ 255 := by
  have h := rinv_rise l hl
  have h1 := h.len
  have h2 := h.hi
  omega

/-- the best of two slots -/
def top (x y : Slt) : Slt := if bestI x y = 1 then y else x
/-- what holds after writes, done of which were done, the last one of c and L -/
structure LInv (done : Nat) (x y : Slt) (c : Int) (L : List Int) : Prop where
  fx : SFit x
  fy : SFit y
  none : done = 0 → bestB x y = false
  some : 0 < done → bestB x y = true ∧ (top x y).s = done ∧ saysS (top x y) c L = true
theorem best_none {x y : Slt} (h : bestB x y = false) : bestI x y = 0 ∧ x.ok = false ∧ y.ok = false := by
  cases hx : x.ok <;> cases hy : y.ok <;> simp [bestB, bestI, hx, hy] at *
theorem linv_zero (c : Int) (L : List Int) : LInv 0 Slt.zero Slt.zero c L := ⟨sfit_zero, sfit_zero, fun _ => best0.2, fun h => by omega⟩
theorem linv_E {done : Nat} {x y : Slt} {c cL a : Int} {L r : List Int} (h : LInv done x y cL L) (hd : done ≤ 40) (hF : fldB 0 c r = true) (ha : 0 ≤ a ∧ a ≤ 3) : wrE x y c r a = 0 := by
  have hl := (fldB_iff.1 hF).1.2.2
  have ht : topS x y ≠ 1000000000 := by
    rcases Nat.eq_zero_or_pos done with h0 | h0
    · simp [topS, h.none h0]
    · have hs := h.some h0
      have h2 := hs.2.1
      have : topS x y = (top x y).s := by unfold topS top; rw [hs.1, if_pos rfl]; split <;> rfl
      omega
  rw [wrE, if_neg (by omega), if_neg (by simp [hF]), if_neg (by simp [wB_iff.2 ha]), if_neg ht]
theorem linv_step {done : Nat} {x y : Slt} {c cL a : Int} {L r : List Int} (h : LInv done x y cL L) (hd : done ≤ 40) (hF : fldB 0 c r = true) (hf : Fit r) (ha : 0 ≤ a ∧ a ≤ 3) :
    (a < 2 → LInv done (wr0 x y c r a) (wr1 x y c r a) cL L) ∧ (2 ≤ a → LInv (done + 1) (wr0 x y c r a) (wr1 x y c r a) c r) := by
  have hE := linv_E h hd hF ha
  have hfz := sfit_wr (x := x) (y := y) (c := c) (a := a) (l := r) h.fx h.fy hf
  rcases Nat.eq_zero_or_pos done with h0 | h0
  · have hb := h.none h0
    have hb2 := best_none hb
    have hi : into0 x y = true := by simp [into0, hb]
    have ht : topS x y = 0 := by simp [topS, hb]
    have e1 : wr1 x y c r a = y := by rw [wr1, if_pos hE, if_neg (by simp [hi])]
    have hFt := fld_top hE
    rw [ht] at hFt
    refine ⟨fun h2 => ?_, fun h2 => ?_⟩
    · refine ⟨hfz.1, hfz.2, fun _ => ?_, fun h3 => by omega⟩
      rw [e1]
      by_cases h4 : a = 0
      · have : wr0 x y c r a = x := by rw [wr0, if_pos hE, if_neg (by simp [h4])]
        rw [this]; exact hb
      · have h5 : a = 1 := by omega
        have : wr0 x y c r a = ⟨0 + 1, c, r, (sumS (0 + 1) c r + 1) % 18446744073709551616⟩ := by rw [wr0, if_pos hE, if_pos ⟨hi, h4⟩, wrS, ht, if_pos h5]
        rw [this, bestB, torn_ok, hb2.2.2]; rfl
    · have e0 : wr0 x y c r a = Slt.made (0 + 1) c r := by rw [wr0, if_pos hE, if_pos ⟨hi, by omega⟩, wrS, ht, if_neg (by omega)]; rfl
      refine ⟨hfz.1, hfz.2, fun h3 => by omega, fun _ => ?_⟩
      rw [e0, e1]
      have hmo := made_ok hFt
      have hI : bestI (Slt.made (0 + 1) c r) y = 0 := by simp [bestI, hb2.2.2]
      have htp : top (Slt.made (0 + 1) c r) y = Slt.made (0 + 1) c r := by rw [top, hI, if_neg (by omega)]
      rw [htp]
      exact ⟨by rw [bestB, hmo, Bool.true_or], by subst h0; simp [Slt.made], saysS_iff.2 ⟨rfl, rfl⟩⟩
  · obtain ⟨hb, hs, hsay⟩ := h.some h0
    rcases bestI_01 x y with hI | hI
    · have htx : top x y = x := by rw [top, hI, if_neg (by omega)]
      rw [htx] at hs hsay
      obtain ⟨e0, hb2, hlow, hhigh⟩ := stays0 hE hb hI
      refine ⟨fun h2 => ⟨hfz.1, hfz.2, fun h3 => by omega, fun _ => ?_⟩, fun h2 => ⟨hfz.1, hfz.2, fun h3 => by omega, fun _ => ?_⟩⟩
      · rw [e0]
        have : top x (wr1 x y c r a) = x := by rw [top, hlow h2, if_neg (by omega)]
        rw [this]; exact ⟨hb2, hs, hsay⟩
      · obtain ⟨g1, g2, g3⟩ := hhigh h2
        rw [e0]
        have : top x (wr1 x y c r a) = wr1 x y c r a := by rw [top, g1, if_pos rfl]
        rw [this]; exact ⟨hb2, by rw [g3, hs]; omega, g2⟩
    · have hty : top x y = y := by rw [top, hI, if_pos rfl]
      rw [hty] at hs hsay
      obtain ⟨e0, hb2, hlow, hhigh⟩ := stays1 hE hb hI
      refine ⟨fun h2 => ⟨hfz.1, hfz.2, fun h3 => by omega, fun _ => ?_⟩, fun h2 => ⟨hfz.1, hfz.2, fun h3 => by omega, fun _ => ?_⟩⟩
      · rw [e0]
        have : top (wr0 x y c r a) y = y := by rw [top, hlow h2, if_pos rfl]
        rw [this]; exact ⟨hb2, hs, hsay⟩
      · obtain ⟨g1, g2, g3⟩ := hhigh h2
        rw [e0]
        have : top (wr0 x y c r a) y = wr0 x y c r a := by rw [top, g1, if_neg (by omega)]
        rw [this]; exact ⟨hb2, by rw [g3, hs]; omega, g2⟩
end Go.Proofs.YtncfilbpgomncaaDoor
