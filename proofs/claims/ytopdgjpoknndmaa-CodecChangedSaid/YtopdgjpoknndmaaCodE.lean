/- Contracts of package codec: caught, Get. -/
import Derived.Test.YtopdgjpoknndmaaCodD
import Derived.Defers
import Derived.Recover
import Derived.Laws.Pointers
import Derived.LaidEql
import Derived.WideLaws
namespace Go.Proofs.Ytopdgjpoknndmaa
set_option linter.unusedSimpArgs false
set_option linter.unusedVariables false
set_option maxRecDepth 100000
open Go.RowKit

theorem caught_idle (p q : Addr) (w : World) :
    CallsD Try.prog 28 #[.pointer (some p), .pointer (some q)] .returning w fun e u' w' => e = .returned (.tuple #[]) ∧ u' = .returning ∧ w' = w := by
  refine callsD_of_wpS Try.func28 rfl fun c₀ cs hu => ?_
  apply wpS_seq
  apply wpS_region
  simp [wpOpsS, go_sem, recoverD, hu, Try.ntmps28, Exit.thenS]
  have e : ∀ X : Value, (#[.pointer (some p), .pointer (some q)] ++ (Array.replicate 15 undef).setIfInBounds 5 X) = #[.pointer (some p), .pointer (some q), undef, undef, undef, undef, undef, X, undef, undef, undef, undef, undef, undef, undef, undef, undef] := fun _ => rfl
  rw [e]
  clear e
  refine wpS_of_wp ?_
  go_wp2
  cases c₀
  simp_all [bodyPostS, results, Try.results28]
theorem caught_panicking (p q : Nat) (x : Value) (y : Int) (older : List PanicEntry) (w : World) (hp : w.cell? ⟨p, 0, none⟩ = some x) (hpf : w.frozen? ⟨p, 0, none⟩ = false) (hq : w.cell? ⟨q, 0, none⟩ = some (.int .i64 y)) (hqf : w.frozen? ⟨q, 0, none⟩ = false) (hne : p ≠ q) :
    CallsD Try.prog 28 #[.pointer (some ⟨p, 0, none⟩), .pointer (some ⟨q, 0, none⟩)] (.panicking ({ v := .iface 65 (.agg #[]), recovered := false } :: older)) w fun e u' w' => e = .returned (.tuple #[]) ∧ u' = .panicking ({ v := .iface 65 (.agg #[]), recovered := true } :: older) ∧
      w' = ((w.setCell ⟨p, 0, none⟩ (.slice none 0 0)).setCell ⟨q, 0, none⟩ (.int .i64 7)).alloc (.cells #[] 65) := by
  have hp1 : p < w.heap.size := World.block_lt_of_cell? w _ hp
  have hq1 : q < w.heap.size := World.block_lt_of_cell? w _ hq
  have hta : ∀ w : World, (Instr.typeAssert (.iface 65 (.agg #[])) 20 65 true).run Try.prog w = .ok (.tuple #[.agg #[], .bool true]) w := fun _ => by kernel_rfl
  refine callsD_of_wpS Try.func28 rfl fun c₀ cs hu => ?_
  apply wpS_seq
  apply wpS_region
  simp [wpOpsS, go_sem, recoverD, hu, Try.ntmps28, Exit.thenS]
  have e : ∀ X : Value, (#[.pointer (some ⟨p, 0, none⟩), .pointer (some ⟨q, 0, none⟩)] ++ (Array.replicate 15 undef).setIfInBounds 5 X) = #[.pointer (some ⟨p, 0, none⟩), .pointer (some ⟨q, 0, none⟩), undef, undef, undef, undef, undef, X, undef, undef, undef, undef, undef, undef, undef, undef, undef] := fun _ => rfl
  rw [e]
  clear e
  refine wpS_of_wp ?_
  go_wp2
  cases c₀
  simp_all [bodyPostS, results, Try.results28]

def NextSome (g : Nat) (A : Option Addr) (l : List Int) (u n : Nat) (w : World) (e : Ending) (w' : World) : Prop :=
  ∃ A' c', e = .returned (.int .i64 (uz u)) ∧ w' = w.setCell ⟨g, 0, none⟩ (.slice A' (l.drop n).length c') ∧ (l.drop n).length ≤ c' ∧ ∀ W, IntsAt W A .u8 l → IntsAt W A' .u8 (l.drop n)
theorem next_some (g : Nat) (A : Option Addr) (c : Nat) (l : List Int) (u n : Nat) (hr : rd 0 0 l = some (u, n)) (w : World) (hl : IntsAt w A .u8 l) (hn : l.length ≤ 1000000) (hcap : l.length ≤ c) (hb : ∀ i, 0 ≤ l.getD i 0 ∧ l.getD i 0 ≤ 255)
    (hg : w.cell? ⟨g, 0, none⟩ = some (.slice A l.length c)) (hf : w.frozen? ⟨g, 0, none⟩ = false) :
    Calls Try.prog 29 #[.pointer (some ⟨g, 0, none⟩)] w (NextSome g A l u n w) :=
  (next_any g A c l w hl hn hcap hb hg hf).mono fun e w' h => by
    rcases h with ⟨h0, _⟩ | ⟨u', n', A', c', h0, h1, h2, h3, h4⟩
    · rw [hr] at h0; cases h0
    · rw [hr] at h0
      injection h0 with h0
      injection h0 with h5 h6
      subst h5 h6
      exact ⟨A', c', h1, h2, h3, h4⟩
theorem next_none (g : Nat) (A : Option Addr) (c : Nat) (l : List Int) (hr : rd 0 0 l = none) (w : World) (hl : IntsAt w A .u8 l) (hn : l.length ≤ 1000000) (hcap : l.length ≤ c) (hb : ∀ i, 0 ≤ l.getD i 0 ∧ l.getD i 0 ≤ 255)
    (hg : w.cell? ⟨g, 0, none⟩ = some (.slice A l.length c)) (hf : w.frozen? ⟨g, 0, none⟩ = false) :
    Calls Try.prog 29 #[.pointer (some ⟨g, 0, none⟩)] w fun e w' => e = .panicked [{ v := .iface 65 (.agg #[]), recovered := false }] ∧ w = w' :=
  (next_any g A c l w hl hn hcap hb hg hf).mono fun e w' h => by
    rcases h with ⟨_, h⟩ | ⟨u', n', A', c', h0, _⟩
    · exact h
    · rw [hr] at h0; cases h0

/-- nothing was read -/
def GetNo (w : World) (e : Ending) (w' : World) : Prop := e = .returned (.tuple #[.slice none 0 0, .int .i64 7]) ∧ Below w.heap.size w w'
set_option maxHeartbeats 1000000 in
theorem get_none (A : Option Addr) (c : Nat) (l : List Int) (w : World) (hl : IntsAt w A .u8 l) (hn : l.length ≤ 1000000) (hcap : l.length ≤ c) (hb : ∀ i, 0 ≤ l.getD i 0 ∧ l.getD i 0 ≤ 255) (hr : rd 0 0 l = none) :
    Calls Try.prog 15 #[.slice A l.length c] w (GetNo w) := by
  have H_hl := Lib.hid hl; clear hl; have H_hb := Lib.hid hb; clear hb; have H_hr := Lib.hid hr; clear hr
  go_enter_defers Try.func15, Try.ntmps15
  go_wp2_with fail
  refine (next_none (w.heap.size + 2) A c l H_hr.out _ (((H_hl.out.alloc _).alloc _).alloc _) hn hcap H_hb.out (by go_simp) (by go_simp)).mono ?_
  rintro e w1 ⟨rfl, rfl⟩
  go_wp2_with fail
  refine leaves_cons (f := 28) (args := #[.pointer (some ⟨w.heap.size, 0, none⟩), .pointer (some ⟨w.heap.size + 1, 0, none⟩)]) (by simp) (by simp [go_sem]) ?_
  refine (caught_panicking w.heap.size (w.heap.size + 1) (.slice none 0 0) 0 [] _ (by go_simp) (by go_simp) (by go_simp) (by go_simp) (by omega)).mono ?_
  rintro e u' w'' ⟨rfl, rfl, rfl⟩
  simp [Leaves, settle, results, Try.results15, go_sem]
  exact ⟨rfl, (by (repeat (first | with_reducible exact Below.refl _ _ | with_reducible exact Nat.le_refl _ | with_reducible assumption | with_reducible refine Below.drew ?_ | with_reducible refine below_drewN ?_ _ | with_reducible refine Below.alloc ?_ ?_ _ | with_reducible refine Below.setCell ?_ ?_ _ | with_reducible exact And.right (by assumption) | with_reducible refine Below.trans ?_ (Below.mono (by assumption) ?_) | with_reducible exact Below.size (And.right (by assumption)) | (focus omega) | (focus (simp; done)) | (focus (simp; omega)) | (focus (simp at *; omega)))))⟩

set_option maxHeartbeats 1000000 in
theorem get_range (A : Option Addr) (c : Nat) (l : List Int) (w : World) (hl : IntsAt w A .u8 l) (hn : l.length ≤ 1000000) (hcap : l.length ≤ c) (hb : ∀ i, 0 ≤ l.getD i 0 ∧ l.getD i 0 ≤ 255) (u n : Nat) (hr : rd 0 0 l = some (u, n)) (hu : uz u < 0 ∨ uz u > 4000) :
    Calls Try.prog 15 #[.slice A l.length c] w (GetNo w) := by
  have H_hl := Lib.hid hl; clear hl; have H_hb := Lib.hid hb; clear hb; have H_hr := Lib.hid hr; clear hr
  rcases hu with hu | hu
  · go_enter_defers Try.func15, Try.ntmps15
    go_wp2_with fail
    refine (next_some (w.heap.size + 2) A c l u n H_hr.out _ (((H_hl.out.alloc _).alloc _).alloc _) hn hcap H_hb.out (by go_simp) (by go_simp)).mono ?_
    rintro e w1 ⟨A1, c1, rfl, rfl, hc1, hi1⟩
    have H_hc1 := Lib.hid hc1; clear hc1; have H_hi1 := Lib.hid hi1; clear hi1
    go_wp2_with fail
    refine leaves_cons (f := 28) (args := #[.pointer (some ⟨w.heap.size, 0, none⟩), .pointer (some ⟨w.heap.size + 1, 0, none⟩)]) (by simp) (by simp [go_sem]) ?_
    refine (caught_idle _ _ _).mono ?_
    rintro e u' w'' ⟨rfl, rfl, rfl⟩
    simp [Leaves, settle, results, Try.results15, go_sem]
    exact ⟨rfl, (by (repeat (first | with_reducible exact Below.refl _ _ | with_reducible exact Nat.le_refl _ | with_reducible assumption | with_reducible refine Below.drew ?_ | with_reducible refine below_drewN ?_ _ | with_reducible refine Below.alloc ?_ ?_ _ | with_reducible refine Below.setCell ?_ ?_ _ | with_reducible exact And.right (by assumption) | with_reducible refine Below.trans ?_ (Below.mono (by assumption) ?_) | with_reducible exact Below.size (And.right (by assumption)) | (focus omega) | (focus (simp; done)) | (focus (simp; omega)) | (focus (simp at *; omega)))))⟩
  · have hd : decide (uz u < 0) = false := by simp; omega
    go_enter_defers Try.func15, Try.ntmps15
    go_wp2_with fail
    refine (next_some (w.heap.size + 2) A c l u n H_hr.out _ (((H_hl.out.alloc _).alloc _).alloc _) hn hcap H_hb.out (by go_simp) (by go_simp)).mono ?_
    rintro e w1 ⟨A1, c1, rfl, rfl, hc1, hi1⟩
    have H_hc1 := Lib.hid hc1; clear hc1; have H_hi1 := Lib.hid hi1; clear hi1
    go_wp2_with fail
    refine leaves_cons (f := 28) (args := #[.pointer (some ⟨w.heap.size, 0, none⟩), .pointer (some ⟨w.heap.size + 1, 0, none⟩)]) (by simp) (by simp [go_sem]) ?_
    refine (caught_idle _ _ _).mono ?_
    rintro e u' w'' ⟨rfl, rfl, rfl⟩
    simp [Leaves, settle, results, Try.results15, go_sem]
    exact ⟨rfl, (by (repeat (first | with_reducible exact Below.refl _ _ | with_reducible exact Nat.le_refl _ | with_reducible assumption | with_reducible refine Below.drew ?_ | with_reducible refine below_drewN ?_ _ | with_reducible refine Below.alloc ?_ ?_ _ | with_reducible refine Below.setCell ?_ ?_ _ | with_reducible exact And.right (by assumption) | with_reducible refine Below.trans ?_ (Below.mono (by assumption) ?_) | with_reducible exact Below.size (And.right (by assumption)) | (focus omega) | (focus (simp; done)) | (focus (simp; omega)) | (focus (simp at *; omega)))))⟩
end Go.Proofs.Ytopdgjpoknndmaa
