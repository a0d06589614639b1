/- Contracts of package journal: within, isParty, isRight. -/
import Derived.BigGuardPart
import Derived.Deep.CutRange
import Derived.Test.YtmbmejclnagffaaDoorM15
import Derived.Test.YtmbmejclnagffaaDoorM19
import Derived.Test.YtmbmejclnagffaaDoorM21
import Derived.Test.YtmbmejclnagffaaDoorM22
import Derived.Test.YtmbmejclnagffaaDoorM23
set_option linter.unusedSimpArgs false
set_option linter.unusedVariables false
set_option maxRecDepth 100000
namespace Go.Proofs.YtmbmejclnagffaaDoor
open Go.RowKit
/-- the table of counts reads as its initialiser lays it -/
def Cnt (w : World) : Prop := Lib.TabIs Tryd.prog w "innkeeper/journal.counts" .i64 cntL
theorem Cnt.below {w w' : World} (h : Cnt w) (hb : Below w.heap.size w w') : Cnt w' := Lib.tabBelow_of_tabIs h w' hb
theorem Cnt.cell {w : World} (h : Cnt w) {k : Int} (hk : 1 ≤ k ∧ k ≤ 9) : w.cell? ⟨0, k.toNat, none⟩ = some (.int .i64 (cntI k)) := by
  have := Lib.TabIs.cell h (g := 0) (by kernel_rfl) k.toNat (by simp [cntL]; omega)
  exact this
theorem Cnt.lt {w : World} (h : Cnt w) : 0 < w.heap.size := World.block_lt_of_cell? w _ (h.cell (k := 1) (by omega))
structure MFit (m : Msg) : Prop where
  p : -9223372036854775808 ≤ m.p ∧ m.p ≤ 9223372036854775807
  s : -9223372036854775808 ≤ m.s ∧ m.s ≤ 9223372036854775807
  t : -9223372036854775808 ≤ m.t ∧ m.t ≤ 9223372036854775807
  k : -9223372036854775808 ≤ m.k ∧ m.k ≤ 9223372036854775807
  n : m.a.length ≤ 9223372036854775807
theorem jwithin_any (n lo hi : Int) (w : World) : Calls Tryd.prog 57 #[.int .i64 n, .int .i64 lo, .int .i64 hi] w fun e w' => e = .returned (.bool (inJ n lo hi)) ∧ w = w' := by
  by_cases h1 : lo ≤ n
  · have i1 : decide (lo ≤ n) = true := decide_eq_true h1
    have e : inJ n lo hi = decide (n ≤ hi) := by rw [inJ, i1, Bool.true_and]
    have H_e := Lib.hid e; clear e
    go_enter Tryd.func57, Tryd.ntmps57
    go_wp2_with fail
    go_ret
    exact ⟨ret_bool H_e.out.symm, rfl⟩
  · have i1 : decide (lo ≤ n) = false := decide_eq_false h1
    have e : inJ n lo hi = false := by rw [inJ, i1, Bool.false_and]
    have H_e := Lib.hid e; clear e
    go_enter Tryd.func57, Tryd.ntmps57
    go_wp2_with fail
    go_ret
    exact ⟨ret_bool H_e.out.symm, rfl⟩
theorem jparty_any (n : Int) (h : -9223372036854775808 ≤ n ∧ n ≤ 9223372036854775807) (w : World) : Calls Tryd.prog 33 #[.int .i64 n] w fun e w' => e = .returned (.bool (ptyB n)) ∧ w = w' := by
  have q := jwithin_any (n.tdiv 1000) 1 4 w
  rw [pty_div] at q
  have b := Int.natAbs_tdiv_le_natAbs n 1000
  have k1 : IntKind.i64.wrap (n.tdiv 1000) = n.tdiv 1000 := IntWalk.i64_in _ (by
    by_cases h0 : 0 ≤ n
    · have := Int.tdiv_nonneg h0 (show (0 : Int) ≤ 1000 by omega)
      rw [Int.tdiv_eq_ediv_of_nonneg h0] at *; omega
    · have h2 : (-n).tdiv 1000 = -(n.tdiv 1000) := Int.neg_tdiv ..
      rw [Int.tdiv_eq_ediv_of_nonneg (by omega)] at h2; omega)
  generalize ptyB n = R at *
  have ⟨H_q, H_b⟩ := hid2 q b; clear q b
  go_enter Tryd.func33, Tryd.ntmps33
  go_wp2_with fail
  (with_reducible refine H_q.out.mono ?_)
  rintro e w_ ⟨rfl, hw_⟩
  subst hw_
  go_wp2_with fail
  go_ret
  exact ⟨rfl, rfl⟩
theorem jwrong_any (n : Int) (w : World) : Calls Tryd.prog 59 #[.int .i64 n] w fun e w' => e = .returned (.bool (!argB n)) ∧ w = w' := by
  have q := jwithin_any n 0 1000000000 w
  rw [show inJ n 0 1000000000 = argB n from rfl] at q
  generalize argB n = R at *
  have H_q := Lib.hid q; clear q
  go_enter Tryd.func59, Tryd.ntmps59
  go_wp2_with fail
  (with_reducible refine H_q.out.mono ?_)
  rintro e w_ ⟨rfl, hw_⟩
  subst hw_
  go_wp2_with fail
  go_ret
  exact ⟨rfl, rfl⟩
theorem all_drop {l : List Int} {k : Nat} (hk : k < l.length) : (l.drop k).all argB = (argB (l.getD k 0) && (l.drop (k + 1)).all argB) := by
  rw [List.drop_eq_getElem_cons hk, List.all_cons, List.getD_eq_getElem?_getD, List.getElem?_eq_getElem hk]; rfl
/-- the index that is found -/
def IdxPost (ok : Bool) (w : World) (e : Ending) (w' : World) : Prop := ∃ i : Int, e = .returned (.int .i64 i) ∧ (decide (0 ≤ i)) = !ok ∧ -1 ≤ i ∧ i ≤ 9223372036854775807 ∧ Below w.heap.size w w'
set_option maxHeartbeats 2000000 in
theorem jindex_any (A : Option Addr) (cp n : Nat) (l : List Int) (hln : l.length = n) (hn : n ≤ 9223372036854775807) (w : World) (hl : IntsAt w A .i64 l) :
    Calls Tryd.prog 71 #[.slice A n cp, .func (.func 59) #[] #[]] w (IdxPost (l.all argB) w) := by
  generalize hR : l.all argB = R
  have h0 : R = (l.drop 0).all argB := by rw [List.drop_zero]; exact hR.symm
  have ⟨H_hl, H_hln, H_hR, H_h0⟩ := hid4 hl hln hR h0; clear hl hln hR h0
  go_enter Tryd.func71, Tryd.ntmps71
  go_wp2_with fail
  go_loopw [8] (fun i wr => ∃ (k : Nat), k ≤ n ∧ i = .int .i64 k ∧ R = (l.drop k).all argB ∧ Below w.heap.size w wr) (fun i _ => n - (intOf i).toNat)
  case atStart => exact ⟨0, by omega, rfl, H_h0.out, Below.refl _ _⟩
  case round =>
    obtain ⟨k, hk, rfl, hRk, hb⟩ := hrel
    by_cases hlt : k < n
    · have hkl : k < l.length := by rw [H_hln.out]; exact hlt
      obtain ⟨b, off, hA, hbl, hcx⟩ := (H_hl.out.below hb) k hkl
      subst hA
      rw [all_drop hkl] at hRk
      have q := fun W => jwrong_any (l.getD k 0) W
      generalize l.getD k 0 = x at *
      generalize argB x = X at *
      have g1 : (k : Int) < (n : Int) := by omega
      have g0 : (0 : Int) ≤ (k : Int) := by omega
      have ⟨H_q, H_hRk, H_hb⟩ := hid3 q hRk hb; clear q hRk hb
      cases X with
      | true =>
        go_wp2_with fail
        (with_reducible refine (H_q.out _).mono ?_)
        rintro e w_ ⟨rfl, rfl⟩
        go_wp2_with fail
        go_roundw
        case rel => exact ⟨k + 1, by omega, by go_num, by rw [H_hRk.out, Bool.true_and], H_hb.out⟩
        case measure => simp [intOf]; omega
      | false =>
        go_wp2_with fail
        (with_reducible refine (H_q.out _).mono ?_)
        rintro e w_ ⟨rfl, rfl⟩
        go_wp2_with fail
        go_ret
        exact ⟨k, rfl, by rw [H_hRk.out]; simp, by omega, by omega, H_hb.out⟩
    · have : l.drop k = [] := List.drop_eq_nil_of_le (by rw [H_hln.out]; omega)
      rw [this] at hRk
      have ⟨H_hRk, H_hb, H_this⟩ := hid3 hRk hb this; clear hRk hb this
      go_wp2_with fail
      go_ret
      exact ⟨-1, rfl, by rw [H_hRk.out]; rfl, by omega, by omega, H_hb.out⟩
theorem jcontains_any (A : Option Addr) (cp n : Nat) (l : List Int) (hln : l.length = n) (hn : n ≤ 9223372036854775807) (w : World) (hl : IntsAt w A .i64 l) :
    Calls Tryd.prog 60 #[.slice A n cp, .func (.func 59) #[] #[]] w fun e w' => e = .returned (.bool (!l.all argB)) ∧ Below w.heap.size w w' := by
  have q := jindex_any A cp n l hln hn w hl
  generalize l.all argB = R at *
  unfold IdxPost at q
  have ⟨H_q, H_hl, H_hln⟩ := hid3 q hl hln; clear q hl hln
  go_enter Tryd.func60, Tryd.ntmps60
  go_wp2_with fail
  refine H_q.out.mono ?_
  rintro e w2 ⟨i, rfl, hi, i0, i1, b2⟩
  have H_b2 := Lib.hid b2; clear b2
  cases R with
  | true =>
    have hi2 : ¬ (0 ≤ i) := by simpa using hi
    go_wp2_with fail
    go_ret
    exact ⟨ret_bool (by simp), H_b2.out⟩
  | false =>
    have hi2 : 0 ≤ i := by simpa using hi
    go_wp2_with fail
    go_ret
    exact ⟨ret_bool (by simp), H_b2.out⟩
end Go.Proofs.YtmbmejclnagffaaDoor
