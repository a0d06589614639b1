/- Package journal: slices.Clone at integers and at messages. -/
import Derived.Test.YtmbmejclnagffaaDoorM6
import Derived.Test.YtmbmejclnagffaaDoorM35
set_option linter.unusedSimpArgs false
set_option linter.unusedVariables false
set_option maxRecDepth 100000
namespace Go.Proofs.YtmbmejclnagffaaDoor
open Go.RowKit
/-- slices.Clone at integers -/
def CloneJ (l : List Int) (n : Nat) (w : World) (e : Ending) (w' : World) : Prop := ∃ A c, e = .returned (.slice A n c) ∧ OwnInts w' w.heap.size 3 .i64 A c l ∧ Below w.heap.size w w'
theorem jclone_any (A : Option Addr) (c n : Nat) (l : List Int) (hln : l.length = n) (w : World) (hl : IntsAt w A .i64 l) (hn : n ≤ 100000) :
    Calls Tryd.prog 38 #[.slice A n c] w (CloneJ l n w) := by
  have hv : ∀ (v : Value) (w' : World), w'.ownsRow w.heap.size 3 1 v n (l.map (Value.int .i64)) → ∃ B d, v = .slice B n d ∧ OwnInts w' w.heap.size 3 .i64 B d l := fun v w' ho => by
    subst hln
    have hx : ∃ B d, v = .slice B l.length d := by
      rcases ho.2 with ⟨hv, hn⟩ | ⟨g, cap, cur, hv, _⟩
      · exact ⟨none, 0, by rw [hv, hn]⟩
      · exact ⟨_, cap, hv⟩
    obtain ⟨B, d, rfl⟩ := hx
    exact ⟨B, d, rfl, ho⟩
  cases A with
  | none =>
    have h0 : l = [] := by
      cases l with
      | nil => rfl
      | cons x r => obtain ⟨b, off, h, _⟩ := hl 0 (by simp); cases h
    subst h0
    refine (Tryd.slices_Clone_int_nil n c w).mono ?_
    rintro e w' ⟨rfl, rfl⟩
    subst hln
    exact ⟨none, 0, rfl, OwnInts.nil _ _ _ _, Below.refl _ _⟩
  | some a =>
    rcases Nat.eq_zero_or_pos n with h0 | h0
    · subst h0
      have hl0 : l = [] := List.eq_nil_of_length_eq_zero hln
      subst hl0
      refine (Tryd.slices_Clone_int_zero a c w).mono ?_
      rintro e w' ⟨v', rfl, ho, _, hb⟩
      obtain ⟨B, d, rfl, hi⟩ := hv v' w' (by simpa using ho)
      exact ⟨B, d, rfl, hi, hb⟩
    · obtain ⟨b, off, e, hb0, _⟩ := hl 0 (by omega)
      injection e with e
      subst e
      refine (Tryd.slices_Clone_int b off n c l w (by omega) (by omega) (fun j hj => ?_)).mono ?_
      · obtain ⟨b', off', e, _, hc⟩ := hl j hj
        injection e with e
        injection e with e1 e2
        subst e1 e2
        exact hc
      · rintro e w' ⟨v', rfl, ho, _, hb⟩
        obtain ⟨B, d, rfl, hi⟩ := hv v' w' (by rw [List.take_of_length_le (by omega)] at ho; exact ho)
        exact ⟨B, d, rfl, hi, hb⟩
theorem infoMs : (Tryd.prog.info? 47).map (fun i => (i.zero, i.size, i.bytes)) = some (some (.agg #[.int .i64 0, .int .i64 0, .int .i64 0, .int .i64 0, .slice none 0 0]), 5, 56) := by kernel_rfl
/-- messages in a row of the call's own -/
def OwnM (w : World) (base : Nat) (A : Option Addr) (c : Nat) (l : List Msg) : Prop := OwnRows 47 5 Msg.cells w base A c l
theorem OwnM.msgs {w : World} {base : Nat} {A : Option Addr} {c : Nat} {l : List Msg} (h : OwnM w base A c l) (hm : ∀ m ∈ l, MFit m ∧ m.a.length ≤ m.c ∧ IntsAt w m.A .i64 m.a) : Msgs w A l :=
  OwnRows.rows (At := MsAt) h Msg.cells_len (fun m hx => ⟨rfl, hm m hx⟩)
theorem Msgs.all {w : World} {A : Option Addr} {l : List Msg} (h : Msgs w A l) : ∀ m ∈ l, MFit m ∧ m.a.length ≤ m.c ∧ IntsAt w m.A .i64 m.a := fun m hm => by
  obtain ⟨i, hi, rfl⟩ := List.getElem_of_mem hm
  obtain ⟨_, _, _, _, h2, _⟩ := h.at (List.getElem?_eq_getElem hi)
  exact h2
def CloneM (l : List Msg) (n : Nat) (w : World) (e : Ending) (w' : World) : Prop := ∃ A c, e = .returned (.slice A n c) ∧ OwnM w' w.heap.size A c l ∧ Below w.heap.size w w'
set_option maxRecDepth 100000 in
set_option maxHeartbeats 4000000 in
theorem jcloneM_any (A : Option Addr) (c n : Nat) (l : List Msg) (hln : l.length = n) (w : World) (hl : Msgs w A l) (hn : n ≤ 100000) :
    Calls Tryd.prog 41 #[.slice A n c] w (CloneM l n w) := by
  obtain ⟨i0, hi, hz0, hz1, hz2⟩ := info_parts infoMs
  have q28 : ∀ (w : World) (a : Option Addr) (n c n' c' : Nat), (binOp .eql 28 (.slice a n c) (.slice none n' c')).run Tryd.prog w = .ok (.bool a.isNone) w := fun w a n c n' c' => Lib.run_eql_slice_nil w _ _ a n c n' c' Tryd.underlying28
  cases A with
  | none =>
    have h0 : l = [] := by
      cases l with
      | nil => rfl
      | cons x r => obtain ⟨b, off, h, _⟩ := hl.at (i := 0) rfl; cases h
    subst h0
    subst hln
    have ⟨H_hl, H_hi, H_hz0, H_hz1, H_hz2⟩ := hid5 hl hi hz0 hz1 hz2; clear hl hi hz0 hz1 hz2
    go_enter Tryd.func41, Tryd.ntmps41
    go_wp2_with fail
    go_ret
    exact ⟨none, 0, rfl, OwnRows.nil _ _ _ _ _, Below.refl _ _⟩
  | some ad =>
    obtain ⟨w1, hw1⟩ : ∃ W, w.alloc (.cells #[] 47) = W := ⟨_, rfl⟩
    have b1 : Below w.heap.size w w1 := by rw [← hw1]; exact (Below.refl _ _).alloc (Nat.le_refl _) _
    have o1 : OwnM w1 w.heap.size (some ⟨w.heap.size, 0, none⟩) 0 [] := ⟨rfl, .inr ⟨w.heap.size, 0, #[], rfl, Nat.le_refl _, by rw [← hw1]; exact heap_alloc_new w _, Nat.le_refl _, Nat.zero_le _, rfl, rfl⟩⟩
    have l1 := hl.below b1
    have s1 := b1.size
    have ⟨H_hl, H_hi, H_hz0, H_hz1, H_hz2, H_hw1, H_b1, H_o1⟩ := hid8 hl hi hz0 hz1 hz2 hw1 b1 o1; clear hl hi hz0 hz1 hz2 hw1 b1 o1; have ⟨H_l1, H_hln⟩ := hid2 l1 hln; clear l1 hln
    go_enter Tryd.func41, Tryd.ntmps41
    go_upto_region 3 with (fail)
    go_wp2_with (at_builtin; rw [H_hw1.out]; refine wp_app_gen (At := MsAt) _ rfl (.tmp 5) (.tmp 6) _ rfl i0 _ 56 Tryd.underlying28 H_hi.out H_hz0.out H_hz1.out H_hz2.out rfl (by decide) Msg.cells_len Msg.cells_one (fun _ _ h => h.1) 0 rfl rfl H_o1.out (some ad) c n l H_hln.out rfl H_l1.out (by unfold maxLen; omega) (by omega) s1 ?_)
    intro A' c' w' own' g' _
    have b2 : Below w.heap.size w w' := H_b1.out.grown g' s1 (fun g hg => by cases hg; exact Nat.le_refl _)
    have ⟨H_own', H_g', H_b2⟩ := hid3 own' g' b2; clear own' g' b2
    go_wp2_with fail
    go_ret
    exact ⟨A', c', by first | rfl | rw [Nat.zero_add], H_own'.out, H_b2.out⟩
end Go.Proofs.YtmbmejclnagffaaDoor
