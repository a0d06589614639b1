/- The walks of turned, DigestTexts, DigestLast, DigestChains. -/
import Derived.Test.YtopdgjpoknndmaaDoorDigL2
import Derived.Test.YtopdgjpoknndmaaDoorLap
namespace Go.Proofs.YtopdgjpoknndmaaDoor
set_option linter.unusedSimpArgs false
set_option linter.unusedVariables false
set_option maxRecDepth 100000
open Go.RowKit

/-- which number is turned -/
def at16 (l : List Int) (which : Int) : Nat := (which % (l.length : Int)).toNat
/-- a number is there and can be turned -/
def canTurn (l : List Int) (which : Int) : Prop := 0 < l.length ∧ 0 ≤ l.getD (at16 l which) 0 ∧ l.getD (at16 l which) 0 ≤ 1000000000000
def turnedL (l : List Int) (which by_ : Int) : List Int := l.set (at16 l which) (turnI (l.getD (at16 l which) 0) by_)
/-- what turned returns -/
def TurnedPost (l : List Int) (which by_ : Int) (w : World) (e : Ending) (w' : World) : Prop :=
  Below w.heap.size w w' ∧ ((¬ canTurn l which ∧ e = .returned (.tuple #[.slice none 0 0, .bool false])) ∨
    (canTurn l which ∧ ∃ A c, e = .returned (.tuple #[.slice A l.length c, .bool true]) ∧ l.length ≤ c ∧ IntsAt w' A .i64 (turnedL l which by_)))
theorem at16_lt {l : List Int} {which : Int} (h : 0 < l.length) : at16 l which < l.length := by
  have h1 := Int.emod_nonneg which (b := (l.length : Int)) (by omega)
  have h2 := Int.emod_lt_of_pos which (b := (l.length : Int)) (by omega)
  unfold at16; omega
theorem turned_len (l : List Int) (which by_ : Int) : (turnedL l which by_).length = l.length := by simp [turnedL]
theorem turned_fit {l : List Int} {which by_ : Int} (hl : Fit l) (h : canTurn l which) (hb : 0 ≤ by_) : Fit (turnedL l which by_) := fun x hx => by
  rcases List.mem_or_eq_of_mem_set hx with h1 | h1
  · exact hl x h1
  · have := turn_in h.2.1 h.2.2 hb; omega

set_option maxHeartbeats 4000000 in
theorem turned_any (A : Option Addr) (c : Nat) (l : List Int) (which by_ : Int) (w : World) (hl : IntsAt w A .i64 l) (hn : l.length ≤ 140737488355328 / 8) (hw : 0 ≤ which ∧ which ≤ 65535) (hb : 0 ≤ by_ ∧ by_ ≤ 255) :
    Calls Tryd.prog 18 #[.slice A l.length c, .int .u16 which, .int .u8 by_] w (TurnedPost l which by_ w) := by
  obtain ⟨i0, hi, hz0, hz1, hz2⟩ := info_parts infoI64
  have hw0 := hw.1; have hw1 := hw.2; have hb0 := hb.1; have hb1 := hb.2
  by_cases g0 : l.length = 0
  · have g0' : ((l.length : Int) == 0) = true := by simp [g0]
    have fin : TurnedPost l which by_ w (.returned (.tuple #[.slice none 0 0, .bool false])) w := ⟨Below.refl _ _, .inl ⟨fun h => by have := h.1; omega, rfl⟩⟩
    have H_hl := Lib.hid hl; clear hl; have H_g0 := Lib.hid g0; clear g0; have H_fin := Lib.hid fin; clear fin; have H_hw := Lib.hid hw; clear hw; have H_hb := Lib.hid hb; clear hb
    go_enter Tryd.func18, Tryd.ntmps18
    go_wp2_with fail
    go_ret2
    exact H_fin.out
  have g0' : ((l.length : Int) == 0) = false := by rw [beq_eq_false_iff_ne]; omega
  have hpl := at16_lt (l := l) (which := which) (by omega)
  have hp : which % (l.length : Int) = (at16 l which : Int) := (Int.toNat_of_nonneg (Int.emod_nonneg _ (by omega))).symm
  have finN : ∀ w', ¬ canTurn l which → Below w.heap.size w w' → TurnedPost l which by_ w (.returned (.tuple #[.slice none 0 0, .bool false])) w' := fun w' h hb => ⟨hb, .inl ⟨h, rfl⟩⟩
  have finY : ∀ w' A c, canTurn l which → Below w.heap.size w w' → l.length ≤ c → IntsAt w' A .i64 (turnedL l which by_) → TurnedPost l which by_ w (.returned (.tuple #[.slice A l.length c, .bool true])) w' := fun w' A c h hb hc hi => ⟨hb, .inr ⟨h, A, c, rfl, hc, hi⟩⟩
  have hcan : ¬ (0 ≤ l.getD (at16 l which) 0 ∧ l.getD (at16 l which) 0 ≤ 1000000000000) → ¬ canTurn l which := fun h h2 => h h2.2
  have hcan2 : (0 ≤ l.getD (at16 l which) 0 ∧ l.getD (at16 l which) 0 ≤ 1000000000000) → canTurn l which := fun h => ⟨by omega, h⟩
  have htl : turnedL l which by_ = l.set (at16 l which) (turnI (l.getD (at16 l which) 0) by_) := rfl
  generalize at16 l which = p at *
  have i1 : (0 : Int) ≤ (p : Int) := by omega
  have i2 : (p : Int) < (l.length : Int) := by omega
  have H_hl := Lib.hid hl; clear hl; have H_g0 := Lib.hid g0; clear g0; have H_finN := Lib.hid finN; clear finN; have H_finY := Lib.hid finY; clear finY; have H_hcan := Lib.hid hcan; clear hcan; have H_hcan2 := Lib.hid hcan2; clear hcan2; have H_htl := Lib.hid htl; clear htl; have H_hw := Lib.hid hw; clear hw; have H_hb := Lib.hid hb; clear hb
  go_enter Tryd.func18, Tryd.ntmps18
  go_wp2_with (at_builtin; refine wp_app_at _ rfl (.tmp 14) (.tmp 15) _ rfl w.heap.size 3 i0 _ 8 Tryd.underlying24 hi hz0 hz1 hz2 rfl .i64 (some ⟨w.heap.size, 0, none⟩) 0 0 [] rfl rfl (own_lit (w := w) [] (Nat.le_refl _) (by simp) _ rfl) A c l.length l rfl rfl (H_hl.out.alloc _) (by omega) (by omega) (by simp) ?_)
  intro X x w2 ho2 hg2 hB2
  change OwnInts w2 _ _ _ _ _ l at ho2
  have b2 : Below w.heap.size w w2 := (own_lit (w := w) (k := .i64) [] (Nat.le_refl _) (by simp) _ rfl).grow ((Below.refl _ _).alloc (Nat.le_refl _) _) hg2
  have s2 := b2.size
  have hcp := ho2.cap
  obtain ⟨g, rfl, hg1, hgl, hfz⟩ := ho2.block (by omega)
  obtain ⟨g', off', eg, _, hc⟩ := ho2.ints p hpl
  injection eg with eg
  injection eg with eg1 eg2
  subst eg1 eg2
  have hst := fun y => ho2.ints.set_at (p := p) hpl y
  simp only [Nat.zero_add] at hc hst
  have hf3 := hfz p
  generalize hv : l.getD p 0 = v at *
  clear hfz
  by_cases g1 : v < 0
  · have fin := H_finN.out w2 (H_hcan.out (by omega)) b2
    have H_ho2 := Lib.hid ho2; clear ho2; have H_hg2 := Lib.hid hg2; clear hg2; have H_hB2 := Lib.hid hB2; clear hB2; have H_b2 := Lib.hid b2; clear b2; have H_hst := Lib.hid hst; clear hst; have H_hv := Lib.hid hv; clear hv; have H_fin := Lib.hid fin; clear fin
    go_wp2_with fail
    go_ret2
    exact H_fin.out
  have g1' : decide (v < 0) = false := by simpa using g1
  by_cases g2 : 1000000000000 < v
  · have fin := H_finN.out w2 (H_hcan.out (by omega)) b2
    have H_ho2 := Lib.hid ho2; clear ho2; have H_hg2 := Lib.hid hg2; clear hg2; have H_hB2 := Lib.hid hB2; clear hB2; have H_b2 := Lib.hid b2; clear b2; have H_hst := Lib.hid hst; clear hst; have H_hv := Lib.hid hv; clear hv; have H_fin := Lib.hid fin; clear fin
    go_wp2_with fail
    go_ret2
    exact H_fin.out
  have g2' : decide (1000000000000 < v) = false := by simpa using g2
  have hv0 : 0 ≤ v := by omega
  have hv1 : v ≤ 1000000000000 := by omega
  have hst2 := hst (v - v % 10 + (v % 10 + 1 + by_ % 9) % 10)
  have fin := fun (hW : IntsAt (w2.setCell ⟨g, p, none⟩ (.int .i64 (v - v % 10 + (v % 10 + 1 + by_ % 9) % 10))) (some ⟨g, 0, none⟩) .i64 (l.set p (v - v % 10 + (v % 10 + 1 + by_ % 9) % 10))) => H_finY.out _ (some ⟨g, 0, none⟩) x (H_hcan2.out (by omega)) (b2.setCell hg1 _) hcp (by rw [H_htl.out]; exact hW)
  have fin2 := fin hst2
  have H_ho2 := Lib.hid ho2; clear ho2; have H_hg2 := Lib.hid hg2; clear hg2; have H_hB2 := Lib.hid hB2; clear hB2; have H_b2 := Lib.hid b2; clear b2; have H_hst := Lib.hid hst; clear hst; have H_hv := Lib.hid hv; clear hv; have H_hst2 := Lib.hid hst2; clear hst2; have H_fin := Lib.hid fin; clear fin; have H_fin2 := Lib.hid fin2; clear fin2
  go_wp2_with fail
  go_ret2
  exact H_fin2.out
end Go.Proofs.YtopdgjpoknndmaaDoor
