/- Contracts of package slot: slices.Clone, Valid, Make. -/
import Derived.Test.YtclgncaghiinhaaGreatDoorU5
set_option linter.unusedSimpArgs false
set_option linter.unusedVariables false
set_option maxRecDepth 100000
namespace Go.Proofs.YtclgncaghiinhaaGreatDoor
open Go.RowKit
set_option maxHeartbeats 1000000 in
theorem valid_any (s c u : Int) (A : Option Addr) (cap n : Nat) (l : List Int) (hln : l.length = n) (w : World) (hs : -9223372036854775808 ≤ s ∧ s ≤ 9223372036854775807) (hc : -9223372036854775808 ≤ c ∧ c ≤ 9223372036854775807) (hl : IntsAt w A .i64 l) (hn : n ≤ 100000) (hf : Fit l) (ht : Tab w) :
  Calls Tryz.prog 102 #[.agg #[.int .i64 s, .int .i64 c, .slice A n cap, .int .u64 u]] w fun e w' => e = .returned (.bool (vldB s c l u)) ∧ Below w.heap.size w w' := by
 have bw : Below w.heap.size w (w.alloc (.cells #[.int .i64 s, .int .i64 c, .slice A n cap, .int .u64 u] 45)) := (Below.refl _ _).alloc (Nat.le_refl _) _
 have q := summed_any s c u A cap n l hln _ hs hc (hl.below bw) hn hf (ht.below bw)
 have fin : vldB s c l u = (fldB s c l && (sumS s c l == u)) := rfl
 generalize sumS s c l = U at *
 generalize fldB s c l = F at *
 generalize hE : (U == u) = E at *
 have ⟨Hq, Hfin, Hhl, Hht, Hhf, Hhs, Hhc, Hhln⟩ := hid8 q fin hl ht hf hs hc hln; clear q fin hl ht hf hs hc hln; have ⟨Hbw, HhE⟩ := hid2 bw hE; clear bw hE
 go_enter Tryz.func102, Tryz.ntmps102
 go_wp2_with fail
 refine (Hq.out).mono ?_; rintro e w2 ⟨rfl, hbw2⟩
 have hsw2 := hbw2.size; (try simp only [World.size_alloc, World.heap_drewN, World.size_setCell, heap_drew] at hsw2)
 have gw2 : Below w.heap.size w w2 := belt
 obtain ⟨kw2x0x0, kw2x0x1, kw2x0x2, kw2x0x3⟩ := kc4 hbw2 w.heap.size
 have zw2x0 : w.heap.size < w2.heap.size := by omega
 have Hhbw2 := Lib.hid hbw2; clear hbw2
 cases F with
 | false =>
  go_wp2_with fail
  go_ret
  exact ⟨ret_bool (by rw [Hfin.out]; rfl), belt⟩
 | true =>
  have hE := HhE.out
  go_wp2_with fail
  go_ret
  exact ⟨ret_bool (by rw [Hfin.out]; simp), belt⟩
/-- slices.Clone at integers -/
def CloneAt (l : List Int) (n : Nat) (w : World) (e : Ending) (w' : World) : Prop := ∃ A c, e = .returned (.slice A n c) ∧ OwnInts w' w.heap.size 3 .i64 A c l ∧ Below w.heap.size w w'
theorem clone_any (A : Option Addr) (c n : Nat) (l : List Int) (hln : l.length = n) (w : World) (hl : IntsAt w A .i64 l) (hn : n ≤ 100000) :
  Calls Tryz.prog 80 #[.slice A n c] w (CloneAt l n w) := by
 have hv : ∀ (v : Value) (w' : World), w'.ownsRow w.heap.size 3 1 v n (l.map (Value.int .i64)) → ∃ B d, v = .slice B n d ∧ OwnInts w' w.heap.size 3 .i64 B d l := fun v w' ho => by
  subst hln
  have hx : ∃ B d, v = .slice B l.length d := by
   rcases ho.2 with ⟨hv, hn⟩ | ⟨g, cap, cur, hv, _⟩
   ·exact ⟨none, 0, by rw [hv, hn]⟩
   ·exact ⟨_, cap, hv⟩
  obtain ⟨B, d, rfl⟩ := hx
  exact ⟨B, d, rfl, ho⟩
 cases A with
 | none =>
  have h0 : l = [] := by
   cases l with
   | nil => rfl
   | cons x r => obtain ⟨b, off, h, _⟩ := hl 0 (by simp); cases h
  subst h0
  refine (Tryz.slices_Clone_int_nil n c w).mono ?_
  rintro e w' ⟨rfl, rfl⟩
  subst hln
  exact ⟨none, 0, rfl, OwnInts.nil _ _ _ _, Below.refl _ _⟩
 | some a =>
  rcases Nat.eq_zero_or_pos n with h0 | h0
  ·subst h0
   have hl0 : l = [] := List.eq_nil_of_length_eq_zero hln
   subst hl0
   refine (Tryz.slices_Clone_int_zero a c w).mono ?_
   rintro e w' ⟨v', rfl, ho, _, hb⟩
   obtain ⟨B, d, rfl, hi⟩ := hv v' w' (by simpa using ho)
   exact ⟨B, d, rfl, hi, hb⟩
  ·obtain ⟨b, off, e, hb0, _⟩ := hl 0 (by omega)
   injection e with e
   subst e
   refine (Tryz.slices_Clone_int b off n c l w (by omega) (by omega) (fun j hj => ?_)).mono ?_
   ·obtain ⟨b', off', e, _, hc⟩ := hl j hj
    injection e with e
    injection e with e1 e2
    subst e1 e2
    exact hc
   ·rintro e w' ⟨v', rfl, ho, _, hb⟩
    obtain ⟨B, d, rfl, hi⟩ := hv v' w' (by rw [List.take_of_length_le (by omega)] at ho; exact ho)
    exact ⟨B, d, rfl, hi, hb⟩
/-- a slot and an error number, the slot's list in memory that is there -/
def SlotErr (x : Slt) (E : Int) (w : World) (e : Ending) (w' : World) : Prop :=
 ∃ A cap, e = .returned (.tuple #[.agg #[.int .i64 x.s, .int .i64 x.c, .slice A x.l.length cap, .int .u64 x.u], .int .i64 E]) ∧ OwnInts w' w.heap.size 3 .i64 A cap x.l ∧ Below w.heap.size w w'
theorem slotErr_zero {E : Int} {w w' : World} (hb : Below w.heap.size w w') : SlotErr Slt.zero E w (.returned (.tuple #[.agg #[.int .i64 0, .int .i64 0, .slice none 0 0, .int .u64 0], .int .i64 E])) w' := ⟨none, 0, rfl, OwnInts.nil _ _ _ _, hb⟩
set_option maxHeartbeats 1000000 in
theorem make_long (s c : Int) (A : Option Addr) (cap n : Nat) (w : World) (hn : 500 < n) (hm : n ≤ 9223372036854775807) :
  Calls Tryz.prog 45 #[.int .i64 s, .int .i64 c, .slice A n cap] w (SlotErr Slt.zero 2 w) := by
 have i1 : (500 : Int) < (n : Int) := by omega
 go_enter Tryz.func45, Tryz.ntmps45
 go_wp2_with fail
 refine bodyPost_ret (v := .tuple #[.agg #[.int .i64 0, .int .i64 0, .slice none 0 0, .int .u64 0], .int .i64 2]) (by simp [results, Tryz.results45, go_sem]) rfl (slotErr_zero belt)
set_option maxHeartbeats 2000000 in
theorem make_ok (s c : Int) (A : Option Addr) (cap n : Nat) (l : List Int) (hln : l.length = n) (w : World) (hs : -9223372036854775808 ≤ s ∧ s ≤ 9223372036854775807) (hc : -9223372036854775808 ≤ c ∧ c ≤ 9223372036854775807) (hl : IntsAt w A .i64 l) (hn : n ≤ 500) (hf : Fit l) (ht : Tab w) (hF : fldB s c l = true) :
  Calls Tryz.prog 45 #[.int .i64 s, .int .i64 c, .slice A n cap] w (SlotErr (Slt.made s c l) 0 w) := by
 have i1 : ¬ (500 : Int) < (n : Int) := by omega
 have bw : Below w.heap.size w (w.alloc (.cells #[.int .i64 0, .int .i64 0, .slice none 0 0, .int .u64 0] 45)) := (Below.refl _ _).alloc (Nat.le_refl _) _
 have q1 := clone_any A cap n l hln _ (hl.below bw) (by omega)
 have q2 := fun W X x (h : IntsAt W X .i64 l) h2 => summed_any s c 0 X x n l hln W hs hc h (by omega) hf h2
 rw [hF] at q2
 have mad : Slt.made s c l = ⟨s, c, l, sumS s c l⟩ := rfl
 generalize sumS s c l = U at *
 generalize Slt.made s c l = M at *
 unfold CloneAt at q1
 have ⟨Hq1, Hq2, Hmad, Hhl, Hht, Hhf, Hhs, Hhc⟩ := hid8 q1 q2 mad hl ht hf hs hc; clear q1 q2 mad hl ht hf hs hc; have ⟨Hhln, HhF⟩ := hid2 hln hF; clear hln hF
 go_enter Tryz.func45, Tryz.ntmps45
 go_wp2_with fail
 refine (Hq1.out).mono ?_; rintro e w1 ⟨X, x, rfl, hx, hbw1⟩
 have hsw1 := hbw1.size; (try simp only [World.size_alloc, World.heap_drewN, World.size_setCell, heap_drew] at hsw1)
 have gw1 : Below w.heap.size w w1 := belt
 obtain ⟨kw1x0x0, fw1x0x0, kw1x0x1, fw1x0x1, kw1x0x2, fw1x0x2, kw1x0x3, fw1x0x3⟩ := kf4 hbw1 w.heap.size
 have zw1x0 : w.heap.size < w1.heap.size := by omega
 have Hhbw1 := Lib.hid hbw1; clear hbw1
 have q3 := Hq2.out w1 X x hx.ints (Hht.out.below gw1)
 have ⟨Hq3, Hhx⟩ := hid2 q3 hx; clear q3 hx
 go_wp2_with fail
 refine (Hq3.out).mono ?_; rintro e w2 ⟨rfl, hbw2⟩
 have hsw2 := hbw2.size; (try simp only [World.size_alloc, World.heap_drewN, World.size_setCell, heap_drew] at hsw2)
 have gw2 : Below w.heap.size w w2 := belt
 obtain ⟨kw2x0x0, fw2x0x0, kw2x0x1, fw2x0x1, kw2x0x2, fw2x0x2, kw2x0x3, fw2x0x3⟩ := kf4 hbw2 w.heap.size
 have zw2x0 : w.heap.size < w2.heap.size := by omega
 have Hhbw2 := Lib.hid hbw2; clear hbw2
 clear gw1 kw1x0x0 fw1x0x0 kw1x0x1 fw1x0x1 kw1x0x2 fw1x0x2 kw1x0x3 fw1x0x3
 go_wp2_with fail
 have ho := ((((((Hhx.out.below Hhbw2.out).set (p := ⟨w.heap.size, 0, none⟩) (by simp) (.int .i64 s)).set (p := ⟨w.heap.size, 1, none⟩) (by simp) (.int .i64 c)).set (p := ⟨w.heap.size, 2, none⟩) (by simp) (.slice X n x)).set (p := ⟨w.heap.size, 3, none⟩) (by simp) (.int .u64 U)).alloc (.cells #[.int .i64 s, .int .i64 c, .slice X n x, .int .u64 U] 45)).base_le (show w.heap.size ≤ _ by simp)
 have z4 : Cel4 w2 w.heap.size 0 (.int .i64 0) (.int .i64 0) (.slice none 0 0) (.int .u64 0) := ⟨⟨zw2x0, kw2x0x0, fw2x0x0⟩, ⟨zw2x0, kw2x0x1, fw2x0x1⟩, ⟨zw2x0, kw2x0x2, fw2x0x2⟩, ⟨zw2x0, kw2x0x3, fw2x0x3⟩⟩
 have z := (z4.set4 (.int .i64 s) (.int .i64 c) (.slice X n x) (.int .u64 U)).alloc (.cells #[.int .i64 s, .int .i64 c, .slice X n x, .int .u64 U] 45)
 have z0 := z.1.at; have z1 := z.2.1.at; have z2 := z.2.2.1.at; have z3 := z.2.2.2.at
 simp only [Nat.zero_add] at z0 z1 z2 z3
 rw [Hmad.out]
 refine bodyPost_ret (v := .tuple #[.agg #[.int .i64 s, .int .i64 c, .slice X n x, .int .u64 U], .int .i64 0]) (by simp [results, Tryz.results45, go_sem, z0, z1, z2, z3]) rfl ⟨X, x, by rw [Hhln.out], ho, ?_⟩
 have := below_set4 gw2 (Nat.le_refl _) 0 1 2 3 (.int .i64 s) (.int .i64 c) (.slice X n x) (.int .u64 U)
 exact this.alloc this.size _
set_option maxHeartbeats 2000000 in
theorem make_bad (s c : Int) (A : Option Addr) (cap n : Nat) (l : List Int) (hln : l.length = n) (w : World) (hs : -9223372036854775808 ≤ s ∧ s ≤ 9223372036854775807) (hc : -9223372036854775808 ≤ c ∧ c ≤ 9223372036854775807) (hl : IntsAt w A .i64 l) (hn : n ≤ 500) (hf : Fit l) (ht : Tab w) (hF : fldB s c l = false) :
  Calls Tryz.prog 45 #[.int .i64 s, .int .i64 c, .slice A n cap] w (SlotErr Slt.zero 1 w) := by
 have i1 : ¬ (500 : Int) < (n : Int) := by omega
 have bw : Below w.heap.size w (w.alloc (.cells #[.int .i64 0, .int .i64 0, .slice none 0 0, .int .u64 0] 45)) := (Below.refl _ _).alloc (Nat.le_refl _) _
 have q1 := clone_any A cap n l hln _ (hl.below bw) (by omega)
 have q2 := fun W X x (h : IntsAt W X .i64 l) h2 => summed_any s c 0 X x n l hln W hs hc h (by omega) hf h2
 rw [hF] at q2
 have mad : Slt.made s c l = ⟨s, c, l, sumS s c l⟩ := rfl
 generalize sumS s c l = U at *
 generalize Slt.made s c l = M at *
 unfold CloneAt at q1
 have ⟨Hq1, Hq2, Hmad, Hhl, Hht, Hhf, Hhs, Hhc⟩ := hid8 q1 q2 mad hl ht hf hs hc; clear q1 q2 mad hl ht hf hs hc; have ⟨Hhln, HhF⟩ := hid2 hln hF; clear hln hF
 go_enter Tryz.func45, Tryz.ntmps45
 go_wp2_with fail
 refine (Hq1.out).mono ?_; rintro e w1 ⟨X, x, rfl, hx, hbw1⟩
 have hsw1 := hbw1.size; (try simp only [World.size_alloc, World.heap_drewN, World.size_setCell, heap_drew] at hsw1)
 have gw1 : Below w.heap.size w w1 := belt
 obtain ⟨kw1x0x0, fw1x0x0, kw1x0x1, fw1x0x1, kw1x0x2, fw1x0x2, kw1x0x3, fw1x0x3⟩ := kf4 hbw1 w.heap.size
 have zw1x0 : w.heap.size < w1.heap.size := by omega
 have Hhbw1 := Lib.hid hbw1; clear hbw1
 have q3 := Hq2.out w1 X x hx.ints (Hht.out.below gw1)
 have ⟨Hq3, Hhx⟩ := hid2 q3 hx; clear q3 hx
 go_wp2_with fail
 refine (Hq3.out).mono ?_; rintro e w2 ⟨rfl, hbw2⟩
 have hsw2 := hbw2.size; (try simp only [World.size_alloc, World.heap_drewN, World.size_setCell, heap_drew] at hsw2)
 have gw2 : Below w.heap.size w w2 := belt
 obtain ⟨kw2x0x0, fw2x0x0, kw2x0x1, fw2x0x1, kw2x0x2, fw2x0x2, kw2x0x3, fw2x0x3⟩ := kf4 hbw2 w.heap.size
 have zw2x0 : w.heap.size < w2.heap.size := by omega
 have Hhbw2 := Lib.hid hbw2; clear hbw2
 clear gw1 kw1x0x0 fw1x0x0 kw1x0x1 fw1x0x1 kw1x0x2 fw1x0x2 kw1x0x3 fw1x0x3
 go_wp2_with fail
 refine bodyPost_ret (v := .tuple #[.agg #[.int .i64 0, .int .i64 0, .slice none 0 0, .int .u64 0], .int .i64 1]) (by simp [results, Tryz.results45, go_sem, *]) rfl (slotErr_zero belt)
end Go.Proofs.YtclgncaghiinhaaGreatDoor
