/- The reference's Write, whatever it is called with; plain facts on slots; blocks of cells. -/
import Derived.Test.YtncfilbpgomncaaDoorSlE
import Derived.Test.YtncfilbpgomncaaDoorSlV0
import Derived.Test.YtncfilbpgomncaaDoorSlV1
import Derived.Test.YtncfilbpgomncaaDoorSlV2
namespace Go.Proofs.YtncfilbpgomncaaDoor
set_option linter.unusedSimpArgs false
set_option linter.unusedVariables false
set_option maxRecDepth 100000
open Go.RowKit

theorem rwrite_any (x y : Slt) (c at_ : Int) (A : Option Addr) (n p : Nat) (B : Option Addr) (m q : Nat) (D : Option Addr) (k r : Nat) (l : List Int) (hlk : l.length = k) (w : World) (hx : SlotIs w A n x) (hy : SlotIs w B m y) (hc : -9223372036854775808 ≤ c ∧ c ≤ 9223372036854775807) (hl : IntsAt w D .i64 l) (hk : k ≤ 9223372036854775807) (hf : Fit l) :
    Calls Tryd.prog 40 #[.agg #[.int .i64 x.s, .int .i64 x.c, .slice A n p, .int .u64 x.u, .int .i64 y.s, .int .i64 y.c, .slice B m q, .int .u64 y.u], .int .i64 c, .slice D k r, .int .i64 at_] w (SlotsErr (wr0 x y c l at_) (wr1 x y c l at_) (wrE x y c l at_) w) := by
  by_cases h500 : 500 < k
  · have e : wrE x y c l at_ = 2 := by rw [wrE, if_pos (by omega)]
    have hm : ∀ W, Below w.heap.size w W → Calls Tryd.prog 33 #[.int .i64 0, .int .i64 c, .slice D k r] W (SlotErr Slt.zero 2 W) := fun W _ => rmake_long 0 c D r k W h500 hk
    rw [wr0, wr1, e, if_neg (by omega), if_neg (by omega)]
    cases hE : bestB x y with
    | false => exact rwrite_maken x y c at_ A n p B m q D k r l hlk w hx hy hc hl hf hE 2 rfl hm
    | true =>
      rcases bestI_01 x y with hI | hI
      · exact rwrite_make0 x y c at_ A n p B m q D k r l hlk w hx hy hc hl hf hE hI 2 rfl hm
      · exact rwrite_make1 x y c at_ A n p B m q D k r l hlk w hx hy hc hl hf hE hI 2 rfl hm
  cases hF : fldB 0 c l with
  | false =>
    have e : wrE x y c l at_ = 1 := by rw [wrE, if_neg (by omega), if_pos hF]
    have hm : ∀ W, Below w.heap.size w W → Calls Tryd.prog 33 #[.int .i64 0, .int .i64 c, .slice D k r] W (SlotErr Slt.zero 1 W) := fun W hb => rmake_bad 0 c D r k l hlk W (by omega) hc (hl.below hb) (by omega) hf hF
    rw [wr0, wr1, e, if_neg (by omega), if_neg (by omega)]
    cases hE : bestB x y with
    | false => exact rwrite_maken x y c at_ A n p B m q D k r l hlk w hx hy hc hl hf hE 1 rfl hm
    | true =>
      rcases bestI_01 x y with hI | hI
      · exact rwrite_make0 x y c at_ A n p B m q D k r l hlk w hx hy hc hl hf hE hI 1 rfl hm
      · exact rwrite_make1 x y c at_ A n p B m q D k r l hlk w hx hy hc hl hf hE hI 1 rfl hm
  | true =>
    cases hat : wB at_ 0 3 with
    | false =>
      have e : wrE x y c l at_ = 1 := by rw [wrE, if_neg (by omega), if_neg (by simp [hF]), if_pos hat]
      have h3 : ¬ (0 ≤ at_ ∧ at_ ≤ 3) := wB_no.1 hat
      rw [wr0, wr1, e, if_neg (by omega), if_neg (by omega)]
      cases hE : bestB x y with
      | false => exact rwrite_argn x y c at_ A n p B m q D k r l hlk w hx hy hc hl (by omega) hf hE hF h3
      | true =>
        rcases bestI_01 x y with hI | hI
        · exact rwrite_arg0 x y c at_ A n p B m q D k r l hlk w hx hy hc hl (by omega) hf hE hI hF h3
        · exact rwrite_arg1 x y c at_ A n p B m q D k r l hlk w hx hy hc hl (by omega) hf hE hI hF h3
    | true =>
      have h3' := wB_iff.1 hat
      have h3 : at_ = 0 ∨ at_ = 1 ∨ at_ = 2 ∨ at_ = 3 := by omega
      have e : wrE x y c l at_ = if topS x y = 1000000000 then 3 else 0 := by rw [wrE, if_neg (by omega), if_neg (by simp [hF]), if_neg (by simp [hat])]
      cases hE : bestB x y with
      | false =>
        have et : topS x y = 0 := by simp [topS, hE]
        rw [et, if_neg (by omega)] at e
        have := rwrite_okn x y c at_ A n p B m q D k r l hlk w hx hy hc hl (by omega) hf hE hF h3 (by omega) (by omega) e
        rw [e]; exact this
      | true =>
        rcases bestI_01 x y with hI | hI
        · have et : topS x y = x.s := by simp [topS, hE, hI]
          have hb := ok_s (best_ok0 hE hI)
          rw [et] at e
          by_cases hS : x.s = 1000000000
          · rw [if_pos hS] at e
            rw [wr0, wr1, e, if_neg (by omega), if_neg (by omega)]
            exact rwrite_range0 x y c at_ A n p B m q D k r l hlk w hx hy hc hl (by omega) hf hE hI hF h3' hS
          · rw [if_neg hS] at e
            have := rwrite_ok0 x y c at_ A n p B m q D k r l hlk w hx hy hc hl (by omega) hf hE hI hF h3 hS hb e
            rw [e]; exact this
        · have et : topS x y = y.s := by simp [topS, hE, hI]
          have hb := ok_s (best_ok1 hI)
          rw [et] at e
          by_cases hS : y.s = 1000000000
          · rw [if_pos hS] at e
            rw [wr0, wr1, e, if_neg (by omega), if_neg (by omega)]
            exact rwrite_range1 x y c at_ A n p B m q D k r l hlk w hx hy hc hl (by omega) hf hE hI hF h3' hS
          · rw [if_neg hS] at e
            have := rwrite_ok1 x y c at_ A n p B m q D k r l hlk w hx hy hc hl (by omega) hf hE hI hF h3 hS hb e
            rw [e]; exact this

/-- Make, whatever it is called with -/
def mkE (s c : Int) (l : List Int) : Int := if 500 < l.length then 2 else if fldB s c l = true then 0 else 1
def mkS (s c : Int) (l : List Int) : Slt := if mkE s c l = 0 then Slt.made s c l else Slt.zero
theorem make_any (s c : Int) (A : Option Addr) (cap n : Nat) (l : List Int) (hln : l.length = n) (w : World) (hs : -9223372036854775808 ≤ s ∧ s ≤ 9223372036854775807) (hc : -9223372036854775808 ≤ c ∧ c ≤ 9223372036854775807) (hl : IntsAt w A .i64 l) (hn : n ≤ 9223372036854775807) (hf : Fit l) (ht : Tab w) :
    Calls Tryd.prog 32 #[.int .i64 s, .int .i64 c, .slice A n cap] w (SlotErr (mkS s c l) (mkE s c l) w) := by
  by_cases h : 500 < n
  · have e : mkE s c l = 2 := by rw [mkE, if_pos (by omega)]
    rw [mkS, e, if_neg (by omega)]; exact make_long s c A cap n w h hn
  · cases hF : fldB s c l with
    | true =>
      have e : mkE s c l = 0 := by rw [mkE, if_neg (by omega), if_pos hF]
      rw [mkS, e, if_pos rfl]; exact make_ok s c A cap n l hln w hs hc hl (by omega) hf ht hF
    | false =>
      have e : mkE s c l = 1 := by rw [mkE, if_neg (by omega), if_neg (by simp [hF])]
      rw [mkS, e, if_neg (by omega)]; exact make_bad s c A cap n l hln w hs hc hl (by omega) hf ht hF
theorem rmake_any (s c : Int) (A : Option Addr) (cap n : Nat) (l : List Int) (hln : l.length = n) (w : World) (hs : -9223372036854775808 ≤ s ∧ s ≤ 9223372036854775807) (hc : -9223372036854775808 ≤ c ∧ c ≤ 9223372036854775807) (hl : IntsAt w A .i64 l) (hn : n ≤ 9223372036854775807) (hf : Fit l) :
    Calls Tryd.prog 33 #[.int .i64 s, .int .i64 c, .slice A n cap] w (SlotErr (mkS s c l) (mkE s c l) w) := by
  by_cases h : 500 < n
  · have e : mkE s c l = 2 := by rw [mkE, if_pos (by omega)]
    rw [mkS, e, if_neg (by omega)]; exact rmake_long s c A cap n w h hn
  · cases hF : fldB s c l with
    | true =>
      have e : mkE s c l = 0 := by rw [mkE, if_neg (by omega), if_pos hF]
      rw [mkS, e, if_pos rfl]; exact rmake_ok s c A cap n l hln w hs hc hl (by omega) hf hF
    | false =>
      have e : mkE s c l = 1 := by rw [mkE, if_neg (by omega), if_neg (by simp [hF])]
      rw [mkS, e, if_neg (by omega)]; exact rmake_bad s c A cap n l hln w hs hc hl (by omega) hf hF

theorem dec0 : decB 0 = [48] := by rw [decB, Lib.itoa, if_neg (by omega), Lib.decDigits]; rfl
theorem sum_zero : sumS 0 0 [] ≠ 0 := by
  have e : textB 0 [0, 0] = [0, 0, 0, 0, 0, 0, 0, 0, 48, 32, 48, 32] := by
    rw [textB, wordsB, List.flatMap_cons, List.flatMap_cons, dec0]; decide +kernel
  rw [sumS, nextB, e]
  decide +kernel
theorem zero_ok : Slt.zero.ok = false := by
  have : (sumS 0 0 [] == 0) = false := by rw [beq_eq_false_iff_ne]; exact sum_zero
  simp only [Slt.zero, Slt.ok, vldB, this, Bool.and_false]
theorem made_ok {s c : Int} {l : List Int} (h : fldB s c l = true) : (Slt.made s c l).ok = true := by
  simp only [Slt.ok, Slt.made, vldB, h, Bool.true_and, beq_self_eq_true]
theorem torn_ok (s c : Int) (l : List Int) : (⟨s, c, l, (sumS s c l + 1) % 18446744073709551616⟩ : Slt).ok = false := by
  have h := sumS_in s c l
  have : (sumS s c l == (sumS s c l + 1) % 18446744073709551616) = false := by rw [beq_eq_false_iff_ne]; omega
  simp only [Slt.ok, vldB, this, Bool.and_false]
theorem fldB_iff {s c : Int} {l : List Int} : fldB s c l = true ↔ ((0 ≤ s ∧ s ≤ 1000000000) ∧ (0 ≤ c ∧ c ≤ 1000000000) ∧ l.length ≤ 500) ∧ risB 0 l = true := by
  simp only [fldB, Bool.and_eq_true, cntB, wB_iff, len5B, decide_eq_true_eq]
  exact ⟨fun ⟨⟨⟨h1, h2⟩, h3⟩, h4⟩ => ⟨⟨h1, h2, h3⟩, h4⟩, fun ⟨⟨h1, h2, h3⟩, h4⟩ => ⟨⟨⟨h1, h2⟩, h3⟩, h4⟩⟩
theorem slotIs_zero (w : World) (A : Option Addr) : SlotIs w A 0 Slt.zero := ⟨rfl, by simp only [Slt.zero]; omega, by simp only [Slt.zero]; omega, IntsAt.nil, by omega, fun x hx => by simp [Slt.zero] at hx, by simp only [Slt.zero]; omega⟩

/-- a block of cells that may be written -/
def Blk (w : World) (b : Nat) (vs : Array Value) : Prop := ∀ o v, vs[o]? = some v → Cel w b o v
theorem Blk.below {w w' : World} {b : Nat} {vs : Array Value} (h : Blk w b vs) (hb : Below w.heap.size w w') : Blk w' b vs := fun o v hv => (h o v hv).below hb
theorem blk_new {w : World} {vs : Array Value} {t : TypeId} {n : Nat} (hn : w.heap.size = n) : Blk (w.alloc (.cells vs t)) n vs := fun _ _ h => cel_new hn h
theorem Blk.alloc {w : World} {b : Nat} {vs : Array Value} (h : Blk w b vs) (x : Obj) : Blk (w.alloc x) b vs := fun o v hv => (h o v hv).alloc x
theorem Blk.set {w : World} {b : Nat} {vs : Array Value} (h : Blk w b vs) (o : Nat) (u : Value) (ho : o < vs.size) : Blk (w.setCell ⟨b, o, none⟩ u) b (vs.setIfInBounds o u) := fun i v hi => by
  by_cases e : i = o
  · subst e
    have : v = u := by simpa [Array.getElem?_setIfInBounds, ho] using hi.symm
    subst this
    exact (h i _ (Array.getElem?_eq_getElem ho)).same v
  · have hv : vs[i]? = some v := by simpa [Array.getElem?_setIfInBounds, Ne.symm e] using hi
    exact (h i v hv).near (fun h2 => e h2.symm) u
theorem Blk.far {w : World} {b : Nat} {vs : Array Value} (h : Blk w b vs) {g o : Nat} (hg : g ≠ b) (u : Value) : Blk (w.setCell ⟨g, o, none⟩ u) b vs := fun i v hi => (h i v hi).far hg u
end Go.Proofs.YtncfilbpgomncaaDoor
