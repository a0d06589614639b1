/- Contracts of the reference of slot: SameBoth, Says, Few, Make. -/
import Derived.Test.YtncfilbpgomncaaDoorSlS
namespace Go.Proofs.YtncfilbpgomncaaDoor
set_option linter.unusedSimpArgs false
set_option linter.unusedVariables false
set_option maxRecDepth 100000
open Go.RowKit

set_option maxHeartbeats 4000000 in
theorem rsameBoth_any (x0 x1 y0 y1 : Slt) (A : Option Addr) (n p : Nat) (hx0 : x0.l.length = n) (A' : Option Addr) (n' p' : Nat) (hx1 : x1.l.length = n') (B : Option Addr) (m q : Nat) (hy0 : y0.l.length = m) (B' : Option Addr) (m' q' : Nat) (hy1 : y1.l.length = m') (w : World)
    (hn : n ≤ 100000) (hn' : n' ≤ 100000) (hm : m ≤ 100000) (hm' : m' ≤ 100000) (hl : IntsAt w A .i64 x0.l) (hl' : IntsAt w A' .i64 x1.l) (hk : IntsAt w B .i64 y0.l) (hk' : IntsAt w B' .i64 y1.l) :
    Calls Tryd.prog 41 #[.agg #[.int .i64 x0.s, .int .i64 x0.c, .slice A n p, .int .u64 x0.u, .int .i64 x1.s, .int .i64 x1.c, .slice A' n' p', .int .u64 x1.u], .agg #[.int .i64 y0.s, .int .i64 y0.c, .slice B m q, .int .u64 y0.u, .int .i64 y1.s, .int .i64 y1.c, .slice B' m' q', .int .u64 y1.u]] w
      fun e w' => e = .returned (.bool (sameS x0 y0 && sameS x1 y1)) ∧ Below w.heap.size w w' := by
  obtain ⟨w1, hw1⟩ : ∃ w1, (w.alloc (.cells #[.int .i64 x0.s, .int .i64 x0.c, .slice A n p, .int .u64 x0.u, .int .i64 x1.s, .int .i64 x1.c, .slice A' n' p', .int .u64 x1.u] 51)).alloc (.cells #[.int .i64 y0.s, .int .i64 y0.c, .slice B m q, .int .u64 y0.u, .int .i64 y1.s, .int .i64 y1.c, .slice B' m' q', .int .u64 y1.u] 51) = w1 := ⟨_, rfl⟩
  have b1 : Below w.heap.size w w1 := by rw [← hw1]; exact ((Below.refl _ _).alloc (Nat.le_refl _) _).alloc (by simp) _
  have q1 := rsame_at x0 y0 A n p hx0 B m q hy0 w1 hn hm (hl.below b1) (hk.below b1)
  have q2 := fun W (h : IntsAt W A' .i64 x1.l) (h2 : IntsAt W B' .i64 y1.l) => rsame_at x1 y1 A' n' p' hx1 B' m' q' hy1 W hn' hm' h h2
  rw [← hw1] at q1
  generalize sameS x0 y0 = R at *
  generalize sameS x1 y1 = R' at *
  have H_hx0 := Lib.hid hx0; clear hx0; have H_hx1 := Lib.hid hx1; clear hx1; have H_hy0 := Lib.hid hy0; clear hy0; have H_hy1 := Lib.hid hy1; clear hy1; have H_hl := Lib.hid hl; clear hl; have H_hl' := Lib.hid hl'; clear hl'; have H_hk := Lib.hid hk; clear hk; have H_hk' := Lib.hid hk'; clear hk'; have H_hw1 := Lib.hid hw1; clear hw1; have H_b1 := Lib.hid b1; clear b1; have H_q1 := Lib.hid q1; clear q1; have H_q2 := Lib.hid q2; clear q2
  go_enter Tryd.func41, Tryd.ntmps41
  go_wp2_with fail
  refine (H_q1.out).mono ?_; rintro e w2 ⟨rfl, hbw2⟩
  have hsw2 := hbw2.size; (try simp only [World.size_alloc, World.heap_drewN, World.size_setCell, heap_drew] at hsw2)
  have gw2 : Below w.heap.size w w2 := (by (repeat (first | with_reducible exact Below.refl _ _ | with_reducible exact Nat.le_refl _ | with_reducible assumption | with_reducible refine Below.drew ?_ | with_reducible refine below_drewN ?_ _ | with_reducible refine Below.alloc ?_ ?_ _ | with_reducible refine Below.setCell ?_ ?_ _ | with_reducible exact And.right (by assumption) | with_reducible refine Below.trans ?_ (Below.mono (by assumption) ?_) | with_reducible exact Below.size (And.right (by assumption)) | (focus omega) | (focus (simp; done)) | (focus (simp; omega)) | (focus (simp at *; omega)))))
  have kw2x0x0 := keepc hbw2 (b := w.heap.size) (o := 0) (by first | omega | (simp; done) | (simp; omega)) (by go_simp; with_reducible rfl)
  have kw2x0x1 := keepc hbw2 (b := w.heap.size) (o := 1) (by first | omega | (simp; done) | (simp; omega)) (by go_simp; with_reducible rfl)
  have kw2x0x2 := keepc hbw2 (b := w.heap.size) (o := 2) (by first | omega | (simp; done) | (simp; omega)) (by go_simp; with_reducible rfl)
  have kw2x0x3 := keepc hbw2 (b := w.heap.size) (o := 3) (by first | omega | (simp; done) | (simp; omega)) (by go_simp; with_reducible rfl)
  have kw2x0x4 := keepc hbw2 (b := w.heap.size) (o := 4) (by first | omega | (simp; done) | (simp; omega)) (by go_simp; with_reducible rfl)
  have kw2x0x5 := keepc hbw2 (b := w.heap.size) (o := 5) (by first | omega | (simp; done) | (simp; omega)) (by go_simp; with_reducible rfl)
  have kw2x0x6 := keepc hbw2 (b := w.heap.size) (o := 6) (by first | omega | (simp; done) | (simp; omega)) (by go_simp; with_reducible rfl)
  have kw2x0x7 := keepc hbw2 (b := w.heap.size) (o := 7) (by first | omega | (simp; done) | (simp; omega)) (by go_simp; with_reducible rfl)
  have zw2x0 : w.heap.size < w2.heap.size := by omega
  have kw2x1x0 := keepc hbw2 (b := w.heap.size + 1) (o := 0) (by first | omega | (simp; done) | (simp; omega)) (by go_simp; with_reducible rfl)
  have kw2x1x1 := keepc hbw2 (b := w.heap.size + 1) (o := 1) (by first | omega | (simp; done) | (simp; omega)) (by go_simp; with_reducible rfl)
  have kw2x1x2 := keepc hbw2 (b := w.heap.size + 1) (o := 2) (by first | omega | (simp; done) | (simp; omega)) (by go_simp; with_reducible rfl)
  have kw2x1x3 := keepc hbw2 (b := w.heap.size + 1) (o := 3) (by first | omega | (simp; done) | (simp; omega)) (by go_simp; with_reducible rfl)
  have kw2x1x4 := keepc hbw2 (b := w.heap.size + 1) (o := 4) (by first | omega | (simp; done) | (simp; omega)) (by go_simp; with_reducible rfl)
  have kw2x1x5 := keepc hbw2 (b := w.heap.size + 1) (o := 5) (by first | omega | (simp; done) | (simp; omega)) (by go_simp; with_reducible rfl)
  have kw2x1x6 := keepc hbw2 (b := w.heap.size + 1) (o := 6) (by first | omega | (simp; done) | (simp; omega)) (by go_simp; with_reducible rfl)
  have kw2x1x7 := keepc hbw2 (b := w.heap.size + 1) (o := 7) (by first | omega | (simp; done) | (simp; omega)) (by go_simp; with_reducible rfl)
  have zw2x1 : w.heap.size + 1 < w2.heap.size := by omega
  have H_hbw2 := Lib.hid hbw2; clear hbw2
  cases R with
  | false =>
    go_wp2_with fail
    go_ret
    exact ⟨rfl, gw2⟩
  | true =>
    have q2 := H_q2.out w2 (H_hl'.out.below gw2) (H_hk'.out.below gw2)
    have H_q2 := Lib.hid q2; clear q2
    go_wp2_with fail
    refine (H_q2.out).mono ?_; rintro e w3 ⟨rfl, hbw3⟩
    have hsw3 := hbw3.size; (try simp only [World.size_alloc, World.heap_drewN, World.size_setCell, heap_drew] at hsw3)
    have gw3 : Below w.heap.size w w3 := (by (repeat (first | with_reducible exact Below.refl _ _ | with_reducible exact Nat.le_refl _ | with_reducible assumption | with_reducible refine Below.drew ?_ | with_reducible refine below_drewN ?_ _ | with_reducible refine Below.alloc ?_ ?_ _ | with_reducible refine Below.setCell ?_ ?_ _ | with_reducible exact And.right (by assumption) | with_reducible refine Below.trans ?_ (Below.mono (by assumption) ?_) | with_reducible exact Below.size (And.right (by assumption)) | (focus omega) | (focus (simp; done)) | (focus (simp; omega)) | (focus (simp at *; omega)))))
    have kw3x0x0 := keepc hbw3 (b := w.heap.size) (o := 0) (by first | omega | (simp; done) | (simp; omega)) (by go_simp; with_reducible rfl)
    have zw3x0 : w.heap.size < w3.heap.size := by omega
    have H_hbw3 := Lib.hid hbw3; clear hbw3
    clear gw2
    clear kw2x0x0
    clear kw2x0x1
    clear kw2x0x2
    clear kw2x0x3
    clear kw2x0x4
    clear kw2x0x5
    clear kw2x0x6
    clear kw2x0x7
    clear kw2x1x0
    clear kw2x1x1
    clear kw2x1x2
    clear kw2x1x3
    clear kw2x1x4
    clear kw2x1x5
    clear kw2x1x6
    clear kw2x1x7
    go_wp2_with fail
    go_ret
    exact ⟨rfl, gw3⟩

/-- a slot says a counter and lost cards -/
def saysS (x : Slt) (c : Int) (l : List Int) : Bool := sameS ⟨0, x.c, x.l, 0⟩ ⟨0, c, l, 0⟩
theorem saysS_iff {x : Slt} {c : Int} {l : List Int} : saysS x c l = true ↔ x.c = c ∧ x.l = l := by
  rw [saysS, sameS_iff]; simp
theorem rsays_any (x : Slt) (c : Int) (A : Option Addr) (n p : Nat) (hx : x.l.length = n) (B : Option Addr) (m q : Nat) (l : List Int) (hy : l.length = m) (w : World) (hn : n ≤ 100000) (hm : m ≤ 100000) (hl : IntsAt w A .i64 x.l) (hk : IntsAt w B .i64 l) :
    Calls Tryd.prog 42 #[.agg #[.int .i64 x.s, .int .i64 x.c, .slice A n p, .int .u64 x.u], .int .i64 c, .slice B m q] w fun e w' => e = .returned (.bool (saysS x c l)) ∧ Below w.heap.size w w' := by
  have bw : Below w.heap.size w (w.alloc (.cells #[.int .i64 x.s, .int .i64 x.c, .slice A n p, .int .u64 x.u] 50)) := (Below.refl _ _).alloc (Nat.le_refl _) _
  have q1 := rsame_at ⟨0, x.c, x.l, 0⟩ ⟨0, c, l, 0⟩ A n p hx B m q hy _ hn hm (hl.below bw) (hk.below bw)
  change Calls _ _ _ _ (fun e w' => e = .returned (.bool (saysS x c l)) ∧ _) at q1
  dsimp only at q1
  generalize saysS x c l = R at *
  have H_hx := Lib.hid hx; clear hx; have H_hy := Lib.hid hy; clear hy; have H_hl := Lib.hid hl; clear hl; have H_hk := Lib.hid hk; clear hk; have H_bw := Lib.hid bw; clear bw; have H_q1 := Lib.hid q1; clear q1
  go_enter Tryd.func42, Tryd.ntmps42
  go_wp2_with fail
  refine (H_q1.out).mono ?_; rintro e w2 ⟨rfl, hbw2⟩
  have hsw2 := hbw2.size; (try simp only [World.size_alloc, World.heap_drewN, World.size_setCell, heap_drew] at hsw2)
  have gw2 : Below w.heap.size w w2 := (by (repeat (first | with_reducible exact Below.refl _ _ | with_reducible exact Nat.le_refl _ | with_reducible assumption | with_reducible refine Below.drew ?_ | with_reducible refine below_drewN ?_ _ | with_reducible refine Below.alloc ?_ ?_ _ | with_reducible refine Below.setCell ?_ ?_ _ | with_reducible exact And.right (by assumption) | with_reducible refine Below.trans ?_ (Below.mono (by assumption) ?_) | with_reducible exact Below.size (And.right (by assumption)) | (focus omega) | (focus (simp; done)) | (focus (simp; omega)) | (focus (simp at *; omega)))))
  have kw2x0x0 := keepc hbw2 (b := w.heap.size) (o := 0) (by first | omega | (simp; done) | (simp; omega)) (by go_simp; with_reducible rfl)
  have zw2x0 : w.heap.size < w2.heap.size := by omega
  have H_hbw2 := Lib.hid hbw2; clear hbw2
  go_wp2_with fail
  go_ret
  exact ⟨rfl, gw2⟩

def len40B (n : Nat) : Bool := decide (n ≤ 40)
theorem rfew_any (xs xc xu ys yc yu : Int) (A : Option Addr) (n p : Nat) (B : Option Addr) (m q : Nat) (w : World) (hn : n ≤ 9223372036854775807) (hm : m ≤ 9223372036854775807) :
    Calls Tryd.prog 31 #[.agg #[.int .i64 xs, .int .i64 xc, .slice A n p, .int .u64 xu, .int .i64 ys, .int .i64 yc, .slice B m q, .int .u64 yu]] w fun e w' => e = .returned (.bool (len40B n && len40B m)) ∧ Below w.heap.size w w' := by
  by_cases h1 : n ≤ 40
  · have e1 : len40B n = true := decide_eq_true h1
    have d1 : decide ((n : Int) ≤ 40) = true := decide_eq_true (by omega)
    by_cases h2 : m ≤ 40
    · have e2 : len40B m = true := decide_eq_true h2
      have d2 : decide ((m : Int) ≤ 40) = true := decide_eq_true (by omega)
      rw [e1, e2]
      clear e1 e2
      go_enter Tryd.func31, Tryd.ntmps31
      go_wp2_with fail
      go_ret
      exact ⟨rfl, (by (repeat (first | with_reducible exact Below.refl _ _ | with_reducible exact Nat.le_refl _ | with_reducible assumption | with_reducible refine Below.drew ?_ | with_reducible refine below_drewN ?_ _ | with_reducible refine Below.alloc ?_ ?_ _ | with_reducible refine Below.setCell ?_ ?_ _ | with_reducible exact And.right (by assumption) | with_reducible refine Below.trans ?_ (Below.mono (by assumption) ?_) | with_reducible exact Below.size (And.right (by assumption)) | (focus omega) | (focus (simp; done)) | (focus (simp; omega)) | (focus (simp at *; omega)))))⟩
    · have e2 : len40B m = false := decide_eq_false h2
      have d2 : decide ((m : Int) ≤ 40) = false := decide_eq_false (by omega)
      rw [e1, e2]
      clear e1 e2
      go_enter Tryd.func31, Tryd.ntmps31
      go_wp2_with fail
      go_ret
      exact ⟨rfl, (by (repeat (first | with_reducible exact Below.refl _ _ | with_reducible exact Nat.le_refl _ | with_reducible assumption | with_reducible refine Below.drew ?_ | with_reducible refine below_drewN ?_ _ | with_reducible refine Below.alloc ?_ ?_ _ | with_reducible refine Below.setCell ?_ ?_ _ | with_reducible exact And.right (by assumption) | with_reducible refine Below.trans ?_ (Below.mono (by assumption) ?_) | with_reducible exact Below.size (And.right (by assumption)) | (focus omega) | (focus (simp; done)) | (focus (simp; omega)) | (focus (simp at *; omega)))))⟩
  · have e1 : len40B n = false := decide_eq_false h1
    have d1 : decide ((n : Int) ≤ 40) = false := decide_eq_false (by omega)
    rw [e1, Bool.false_and]
    clear e1
    go_enter Tryd.func31, Tryd.ntmps31
    go_wp2_with fail
    go_ret
    exact ⟨rfl, (by (repeat (first | with_reducible exact Below.refl _ _ | with_reducible exact Nat.le_refl _ | with_reducible assumption | with_reducible refine Below.drew ?_ | with_reducible refine below_drewN ?_ _ | with_reducible refine Below.alloc ?_ ?_ _ | with_reducible refine Below.setCell ?_ ?_ _ | with_reducible exact And.right (by assumption) | with_reducible refine Below.trans ?_ (Below.mono (by assumption) ?_) | with_reducible exact Below.size (And.right (by assumption)) | (focus omega) | (focus (simp; done)) | (focus (simp; omega)) | (focus (simp at *; omega)))))⟩

set_option maxHeartbeats 1000000 in
theorem rmake_long (s c : Int) (A : Option Addr) (cap n : Nat) (w : World) (hn : 500 < n) (hm : n ≤ 9223372036854775807) :
    Calls Tryd.prog 33 #[.int .i64 s, .int .i64 c, .slice A n cap] w (SlotErr Slt.zero 2 w) := by
  have i1 : (500 : Int) < (n : Int) := by omega
  go_enter Tryd.func33, Tryd.ntmps33
  go_wp2_with fail
  refine bodyPost_ret (v := .tuple #[.agg #[.int .i64 0, .int .i64 0, .slice none 0 0, .int .u64 0], .int .i64 2]) (by simp [results, Tryd.results33, go_sem]) rfl (slotErr_zero (by (repeat (first | with_reducible exact Below.refl _ _ | with_reducible exact Nat.le_refl _ | with_reducible assumption | with_reducible refine Below.drew ?_ | with_reducible refine below_drewN ?_ _ | with_reducible refine Below.alloc ?_ ?_ _ | with_reducible refine Below.setCell ?_ ?_ _ | with_reducible exact And.right (by assumption) | with_reducible refine Below.trans ?_ (Below.mono (by assumption) ?_) | with_reducible exact Below.size (And.right (by assumption)) | (focus omega) | (focus (simp; done)) | (focus (simp; omega)) | (focus (simp at *; omega))))))

set_option maxHeartbeats 4000000 in
theorem rmake_ok (s c : Int) (A : Option Addr) (cap n : Nat) (l : List Int) (hln : l.length = n) (w : World) (hs : -9223372036854775808 ≤ s ∧ s ≤ 9223372036854775807) (hc : -9223372036854775808 ≤ c ∧ c ≤ 9223372036854775807) (hl : IntsAt w A .i64 l) (hn : n ≤ 500) (hf : Fit l) (hF : fldB s c l = true) :
    Calls Tryd.prog 33 #[.int .i64 s, .int .i64 c, .slice A n cap] w (SlotErr (Slt.made s c l) 0 w) := by
  obtain ⟨i0, hi, hz0, hz1, hz2⟩ := info_parts infoI64
  have i1 : ¬ (500 : Int) < (n : Int) := by omega
  have b1 : Below w.heap.size w ((w.alloc (.cells #[.int .i64 0, .int .i64 0, .slice none 0 0, .int .u64 0] 50)).alloc (.cells #[.int .i64 s, .int .i64 c, .slice none 0 0, .int .u64 0] 50)) := ((Below.refl _ _).alloc (Nat.le_refl _) _).alloc (by simp) _
  have q1 := fun W X x (h : IntsAt W X .i64 l) => rfields_any s c 0 X x n l hln W h (by omega)
  rw [hF] at q1
  have q2 := fun W X x (h : IntsAt W X .i64 l) => rsum_any s c 0 X x n l hln W hs hc h (by omega) hf
  have mad : Slt.made s c l = ⟨s, c, l, sumS s c l⟩ := rfl
  generalize sumS s c l = U at *
  generalize Slt.made s c l = M at *
  have l1 := hl.below b1
  have H_hs := Lib.hid hs; clear hs; have H_hc := Lib.hid hc; clear hc; have H_hl := Lib.hid hl; clear hl; have H_hf := Lib.hid hf; clear hf; have H_hln := Lib.hid hln; clear hln; have H_hF := Lib.hid hF; clear hF; have H_b1 := Lib.hid b1; clear b1; have H_q1 := Lib.hid q1; clear q1; have H_q2 := Lib.hid q2; clear q2; have H_mad := Lib.hid mad; clear mad; have H_l1 := Lib.hid l1; clear l1
  go_enter Tryd.func33, Tryd.ntmps33
  go_wp2_with (at_builtin; refine wp_app_at _ rfl (.tmp 17) (.tmp 18) _ rfl (w.heap.size + 2) 3 i0 _ 8 Tryd.underlying24 hi hz0 hz1 hz2 rfl .i64 none 0 0 [] rfl rfl (OwnInts.nil _ _ _ _) A cap n l H_hln.out rfl H_l1.out ?_ ?_ ?_ ?_)
  all_goals try omega
  all_goals try (simp; done)
  intro A2 c2 w2 ho2 hg2 hB2
  have hbw2 := below_of_grown_none hg2
  clear hg2 hB2
  have H_ho2 := Lib.hid ho2; clear ho2
  have hsw2 := hbw2.size; (try simp only [World.size_alloc, World.heap_drewN, World.size_setCell, heap_drew] at hsw2)
  have gw2 : Below w.heap.size w w2 := (by (repeat (first | with_reducible exact Below.refl _ _ | with_reducible exact Nat.le_refl _ | with_reducible assumption | with_reducible refine Below.drew ?_ | with_reducible refine below_drewN ?_ _ | with_reducible refine Below.alloc ?_ ?_ _ | with_reducible refine Below.setCell ?_ ?_ _ | with_reducible exact And.right (by assumption) | with_reducible refine Below.trans ?_ (Below.mono (by assumption) ?_) | with_reducible exact Below.size (And.right (by assumption)) | (focus omega) | (focus (simp; done)) | (focus (simp; omega)) | (focus (simp at *; omega)))))
  have kw2x0x0 := keepc hbw2 (b := w.heap.size) (o := 0) (by first | omega | (simp; done) | (simp; omega)) (by go_simp; with_reducible rfl)
  have fw2x0x0 := keepf hbw2 (b := w.heap.size) (o := 0) (by first | omega | (simp; done) | (simp; omega)) (by go_simp)
  have kw2x0x1 := keepc hbw2 (b := w.heap.size) (o := 1) (by first | omega | (simp; done) | (simp; omega)) (by go_simp; with_reducible rfl)
  have fw2x0x1 := keepf hbw2 (b := w.heap.size) (o := 1) (by first | omega | (simp; done) | (simp; omega)) (by go_simp)
  have kw2x0x2 := keepc hbw2 (b := w.heap.size) (o := 2) (by first | omega | (simp; done) | (simp; omega)) (by go_simp; with_reducible rfl)
  have fw2x0x2 := keepf hbw2 (b := w.heap.size) (o := 2) (by first | omega | (simp; done) | (simp; omega)) (by go_simp)
  have kw2x0x3 := keepc hbw2 (b := w.heap.size) (o := 3) (by first | omega | (simp; done) | (simp; omega)) (by go_simp; with_reducible rfl)
  have fw2x0x3 := keepf hbw2 (b := w.heap.size) (o := 3) (by first | omega | (simp; done) | (simp; omega)) (by go_simp)
  have zw2x0 : w.heap.size < w2.heap.size := by omega
  have kw2x1x0 := keepc hbw2 (b := w.heap.size + 1) (o := 0) (by first | omega | (simp; done) | (simp; omega)) (by go_simp; with_reducible rfl)
  have fw2x1x0 := keepf hbw2 (b := w.heap.size + 1) (o := 0) (by first | omega | (simp; done) | (simp; omega)) (by go_simp)
  have kw2x1x1 := keepc hbw2 (b := w.heap.size + 1) (o := 1) (by first | omega | (simp; done) | (simp; omega)) (by go_simp; with_reducible rfl)
  have fw2x1x1 := keepf hbw2 (b := w.heap.size + 1) (o := 1) (by first | omega | (simp; done) | (simp; omega)) (by go_simp)
  have kw2x1x2 := keepc hbw2 (b := w.heap.size + 1) (o := 2) (by first | omega | (simp; done) | (simp; omega)) (by go_simp; with_reducible rfl)
  have fw2x1x2 := keepf hbw2 (b := w.heap.size + 1) (o := 2) (by first | omega | (simp; done) | (simp; omega)) (by go_simp)
  have kw2x1x3 := keepc hbw2 (b := w.heap.size + 1) (o := 3) (by first | omega | (simp; done) | (simp; omega)) (by go_simp; with_reducible rfl)
  have fw2x1x3 := keepf hbw2 (b := w.heap.size + 1) (o := 3) (by first | omega | (simp; done) | (simp; omega)) (by go_simp)
  have zw2x1 : w.heap.size + 1 < w2.heap.size := by omega
  have H_hbw2 := Lib.hid hbw2; clear hbw2
  have ho3 := H_ho2.out.set (p := ⟨w.heap.size + 1, 2, none⟩) (by simp) (.slice A2 n c2)
  have q1 := H_q1.out _ A2 c2 ho3.ints
  have H_q1 := Lib.hid q1; clear q1; have H_ho3 := Lib.hid ho3; clear ho3
  go_wp2_with fail
  refine (H_q1.out).mono ?_; rintro e w3 ⟨rfl, hbw3⟩
  have hsw3 := hbw3.size; (try simp only [World.size_alloc, World.heap_drewN, World.size_setCell, heap_drew] at hsw3)
  have gw3 : Below w.heap.size w w3 := (by (repeat (first | with_reducible exact Below.refl _ _ | with_reducible exact Nat.le_refl _ | with_reducible assumption | with_reducible refine Below.drew ?_ | with_reducible refine below_drewN ?_ _ | with_reducible refine Below.alloc ?_ ?_ _ | with_reducible refine Below.setCell ?_ ?_ _ | with_reducible exact And.right (by assumption) | with_reducible refine Below.trans ?_ (Below.mono (by assumption) ?_) | with_reducible exact Below.size (And.right (by assumption)) | (focus omega) | (focus (simp; done)) | (focus (simp; omega)) | (focus (simp at *; omega)))))
  have kw3x0x0 := keepc hbw3 (b := w.heap.size) (o := 0) (by first | omega | (simp; done) | (simp; omega)) (by go_simp; with_reducible rfl)
  have fw3x0x0 := keepf hbw3 (b := w.heap.size) (o := 0) (by first | omega | (simp; done) | (simp; omega)) (by go_simp)
  have kw3x0x1 := keepc hbw3 (b := w.heap.size) (o := 1) (by first | omega | (simp; done) | (simp; omega)) (by go_simp; with_reducible rfl)
  have fw3x0x1 := keepf hbw3 (b := w.heap.size) (o := 1) (by first | omega | (simp; done) | (simp; omega)) (by go_simp)
  have kw3x0x2 := keepc hbw3 (b := w.heap.size) (o := 2) (by first | omega | (simp; done) | (simp; omega)) (by go_simp; with_reducible rfl)
  have fw3x0x2 := keepf hbw3 (b := w.heap.size) (o := 2) (by first | omega | (simp; done) | (simp; omega)) (by go_simp)
  have kw3x0x3 := keepc hbw3 (b := w.heap.size) (o := 3) (by first | omega | (simp; done) | (simp; omega)) (by go_simp; with_reducible rfl)
  have fw3x0x3 := keepf hbw3 (b := w.heap.size) (o := 3) (by first | omega | (simp; done) | (simp; omega)) (by go_simp)
  have zw3x0 : w.heap.size < w3.heap.size := by omega
  have kw3x1x0 := keepc hbw3 (b := w.heap.size + 1) (o := 0) (by first | omega | (simp; done) | (simp; omega)) (by go_simp; with_reducible rfl)
  have fw3x1x0 := keepf hbw3 (b := w.heap.size + 1) (o := 0) (by first | omega | (simp; done) | (simp; omega)) (by go_simp)
  have kw3x1x1 := keepc hbw3 (b := w.heap.size + 1) (o := 1) (by first | omega | (simp; done) | (simp; omega)) (by go_simp; with_reducible rfl)
  have fw3x1x1 := keepf hbw3 (b := w.heap.size + 1) (o := 1) (by first | omega | (simp; done) | (simp; omega)) (by go_simp)
  have kw3x1x2 := keepc hbw3 (b := w.heap.size + 1) (o := 2) (by first | omega | (simp; done) | (simp; omega)) (by go_simp; with_reducible rfl)
  have fw3x1x2 := keepf hbw3 (b := w.heap.size + 1) (o := 2) (by first | omega | (simp; done) | (simp; omega)) (by go_simp)
  have kw3x1x3 := keepc hbw3 (b := w.heap.size + 1) (o := 3) (by first | omega | (simp; done) | (simp; omega)) (by go_simp; with_reducible rfl)
  have fw3x1x3 := keepf hbw3 (b := w.heap.size + 1) (o := 3) (by first | omega | (simp; done) | (simp; omega)) (by go_simp)
  have zw3x1 : w.heap.size + 1 < w3.heap.size := by omega
  have H_hbw3 := Lib.hid hbw3; clear hbw3
  clear gw2
  clear kw2x0x0
  clear fw2x0x0
  clear kw2x0x1
  clear fw2x0x1
  clear kw2x0x2
  clear fw2x0x2
  clear kw2x0x3
  clear fw2x0x3
  clear kw2x1x0
  clear fw2x1x0
  clear kw2x1x1
  clear fw2x1x1
  clear kw2x1x2
  clear fw2x1x2
  clear kw2x1x3
  clear fw2x1x3
  have ho4 := H_ho3.out.below H_hbw3.out
  have q2 := H_q2.out _ A2 c2 ho4.ints
  have H_q2 := Lib.hid q2; clear q2; have H_ho4 := Lib.hid ho4; clear ho4
  go_wp2_with fail
  refine (H_q2.out).mono ?_; rintro e w4 ⟨rfl, hbw4⟩
  have hsw4 := hbw4.size; (try simp only [World.size_alloc, World.heap_drewN, World.size_setCell, heap_drew] at hsw4)
  have gw4 : Below w.heap.size w w4 := (by (repeat (first | with_reducible exact Below.refl _ _ | with_reducible exact Nat.le_refl _ | with_reducible assumption | with_reducible refine Below.drew ?_ | with_reducible refine below_drewN ?_ _ | with_reducible refine Below.alloc ?_ ?_ _ | with_reducible refine Below.setCell ?_ ?_ _ | with_reducible exact And.right (by assumption) | with_reducible refine Below.trans ?_ (Below.mono (by assumption) ?_) | with_reducible exact Below.size (And.right (by assumption)) | (focus omega) | (focus (simp; done)) | (focus (simp; omega)) | (focus (simp at *; omega)))))
  have kw4x0x0 := keepc hbw4 (b := w.heap.size) (o := 0) (by first | omega | (simp; done) | (simp; omega)) (by go_simp; with_reducible rfl)
  have fw4x0x0 := keepf hbw4 (b := w.heap.size) (o := 0) (by first | omega | (simp; done) | (simp; omega)) (by go_simp)
  have kw4x0x1 := keepc hbw4 (b := w.heap.size) (o := 1) (by first | omega | (simp; done) | (simp; omega)) (by go_simp; with_reducible rfl)
  have fw4x0x1 := keepf hbw4 (b := w.heap.size) (o := 1) (by first | omega | (simp; done) | (simp; omega)) (by go_simp)
  have kw4x0x2 := keepc hbw4 (b := w.heap.size) (o := 2) (by first | omega | (simp; done) | (simp; omega)) (by go_simp; with_reducible rfl)
  have fw4x0x2 := keepf hbw4 (b := w.heap.size) (o := 2) (by first | omega | (simp; done) | (simp; omega)) (by go_simp)
  have kw4x0x3 := keepc hbw4 (b := w.heap.size) (o := 3) (by first | omega | (simp; done) | (simp; omega)) (by go_simp; with_reducible rfl)
  have fw4x0x3 := keepf hbw4 (b := w.heap.size) (o := 3) (by first | omega | (simp; done) | (simp; omega)) (by go_simp)
  have zw4x0 : w.heap.size < w4.heap.size := by omega
  have kw4x1x0 := keepc hbw4 (b := w.heap.size + 1) (o := 0) (by first | omega | (simp; done) | (simp; omega)) (by go_simp; with_reducible rfl)
  have fw4x1x0 := keepf hbw4 (b := w.heap.size + 1) (o := 0) (by first | omega | (simp; done) | (simp; omega)) (by go_simp)
  have kw4x1x1 := keepc hbw4 (b := w.heap.size + 1) (o := 1) (by first | omega | (simp; done) | (simp; omega)) (by go_simp; with_reducible rfl)
  have fw4x1x1 := keepf hbw4 (b := w.heap.size + 1) (o := 1) (by first | omega | (simp; done) | (simp; omega)) (by go_simp)
  have kw4x1x2 := keepc hbw4 (b := w.heap.size + 1) (o := 2) (by first | omega | (simp; done) | (simp; omega)) (by go_simp; with_reducible rfl)
  have fw4x1x2 := keepf hbw4 (b := w.heap.size + 1) (o := 2) (by first | omega | (simp; done) | (simp; omega)) (by go_simp)
  have kw4x1x3 := keepc hbw4 (b := w.heap.size + 1) (o := 3) (by first | omega | (simp; done) | (simp; omega)) (by go_simp; with_reducible rfl)
  have fw4x1x3 := keepf hbw4 (b := w.heap.size + 1) (o := 3) (by first | omega | (simp; done) | (simp; omega)) (by go_simp)
  have zw4x1 : w.heap.size + 1 < w4.heap.size := by omega
  have H_hbw4 := Lib.hid hbw4; clear hbw4
  clear gw3
  clear kw3x0x0
  clear fw3x0x0
  clear kw3x0x1
  clear fw3x0x1
  clear kw3x0x2
  clear fw3x0x2
  clear kw3x0x3
  clear fw3x0x3
  clear kw3x1x0
  clear fw3x1x0
  clear kw3x1x1
  clear fw3x1x1
  clear kw3x1x2
  clear fw3x1x2
  clear kw3x1x3
  clear fw3x1x3
  have ho5 := H_ho4.out.below H_hbw4.out
  have H_ho5 := Lib.hid ho5; clear ho5
  go_wp2_with fail
  rw [H_mad.out]
  refine bodyPost_ret (v := .tuple #[.agg #[.int .i64 s, .int .i64 c, .slice A2 n c2, .int .u64 U], .int .i64 0]) (by simp [results, Tryd.results33, go_sem, *]) rfl ⟨A2, c2, by rw [H_hln.out], ?_, (by (repeat (first | with_reducible exact Below.refl _ _ | with_reducible exact Nat.le_refl _ | with_reducible assumption | with_reducible refine Below.drew ?_ | with_reducible refine below_drewN ?_ _ | with_reducible refine Below.alloc ?_ ?_ _ | with_reducible refine Below.setCell ?_ ?_ _ | with_reducible exact And.right (by assumption) | with_reducible refine Below.trans ?_ (Below.mono (by assumption) ?_) | with_reducible exact Below.size (And.right (by assumption)) | (focus omega) | (focus (simp; done)) | (focus (simp; omega)) | (focus (simp at *; omega)))))⟩
  refine OwnInts.base_le ?_ (show w.heap.size ≤ w.heap.size + 2 by omega)
  repeat (refine OwnInts.set ?_ (by simp) _)
  simpa using H_ho5.out

set_option maxHeartbeats 4000000 in
theorem rmake_bad (s c : Int) (A : Option Addr) (cap n : Nat) (l : List Int) (hln : l.length = n) (w : World) (hs : -9223372036854775808 ≤ s ∧ s ≤ 9223372036854775807) (hc : -9223372036854775808 ≤ c ∧ c ≤ 9223372036854775807) (hl : IntsAt w A .i64 l) (hn : n ≤ 500) (hf : Fit l) (hF : fldB s c l = false) :
    Calls Tryd.prog 33 #[.int .i64 s, .int .i64 c, .slice A n cap] w (SlotErr Slt.zero 1 w) := by
  obtain ⟨i0, hi, hz0, hz1, hz2⟩ := info_parts infoI64
  have i1 : ¬ (500 : Int) < (n : Int) := by omega
  have b1 : Below w.heap.size w ((w.alloc (.cells #[.int .i64 0, .int .i64 0, .slice none 0 0, .int .u64 0] 50)).alloc (.cells #[.int .i64 s, .int .i64 c, .slice none 0 0, .int .u64 0] 50)) := ((Below.refl _ _).alloc (Nat.le_refl _) _).alloc (by simp) _
  have q1 := fun W X x (h : IntsAt W X .i64 l) => rfields_any s c 0 X x n l hln W h (by omega)
  rw [hF] at q1
  have q2 := fun W X x (h : IntsAt W X .i64 l) => rsum_any s c 0 X x n l hln W hs hc h (by omega) hf
  have mad : Slt.made s c l = ⟨s, c, l, sumS s c l⟩ := rfl
  generalize sumS s c l = U at *
  generalize Slt.made s c l = M at *
  have l1 := hl.below b1
  have H_hs := Lib.hid hs; clear hs; have H_hc := Lib.hid hc; clear hc; have H_hl := Lib.hid hl; clear hl; have H_hf := Lib.hid hf; clear hf; have H_hln := Lib.hid hln; clear hln; have H_hF := Lib.hid hF; clear hF; have H_b1 := Lib.hid b1; clear b1; have H_q1 := Lib.hid q1; clear q1; have H_q2 := Lib.hid q2; clear q2; have H_mad := Lib.hid mad; clear mad; have H_l1 := Lib.hid l1; clear l1
  go_enter Tryd.func33, Tryd.ntmps33
  go_wp2_with (at_builtin; refine wp_app_at _ rfl (.tmp 17) (.tmp 18) _ rfl (w.heap.size + 2) 3 i0 _ 8 Tryd.underlying24 hi hz0 hz1 hz2 rfl .i64 none 0 0 [] rfl rfl (OwnInts.nil _ _ _ _) A cap n l H_hln.out rfl H_l1.out ?_ ?_ ?_ ?_)
  all_goals try omega
  all_goals try (simp; done)
  intro A2 c2 w2 ho2 hg2 hB2
  have hbw2 := below_of_grown_none hg2
  clear hg2 hB2
  have H_ho2 := Lib.hid ho2; clear ho2
  have hsw2 := hbw2.size; (try simp only [World.size_alloc, World.heap_drewN, World.size_setCell, heap_drew] at hsw2)
  have gw2 : Below w.heap.size w w2 := (by (repeat (first | with_reducible exact Below.refl _ _ | with_reducible exact Nat.le_refl _ | with_reducible assumption | with_reducible refine Below.drew ?_ | with_reducible refine below_drewN ?_ _ | with_reducible refine Below.alloc ?_ ?_ _ | with_reducible refine Below.setCell ?_ ?_ _ | with_reducible exact And.right (by assumption) | with_reducible refine Below.trans ?_ (Below.mono (by assumption) ?_) | with_reducible exact Below.size (And.right (by assumption)) | (focus omega) | (focus (simp; done)) | (focus (simp; omega)) | (focus (simp at *; omega)))))
  have kw2x0x0 := keepc hbw2 (b := w.heap.size) (o := 0) (by first | omega | (simp; done) | (simp; omega)) (by go_simp; with_reducible rfl)
  have fw2x0x0 := keepf hbw2 (b := w.heap.size) (o := 0) (by first | omega | (simp; done) | (simp; omega)) (by go_simp)
  have kw2x0x1 := keepc hbw2 (b := w.heap.size) (o := 1) (by first | omega | (simp; done) | (simp; omega)) (by go_simp; with_reducible rfl)
  have fw2x0x1 := keepf hbw2 (b := w.heap.size) (o := 1) (by first | omega | (simp; done) | (simp; omega)) (by go_simp)
  have kw2x0x2 := keepc hbw2 (b := w.heap.size) (o := 2) (by first | omega | (simp; done) | (simp; omega)) (by go_simp; with_reducible rfl)
  have fw2x0x2 := keepf hbw2 (b := w.heap.size) (o := 2) (by first | omega | (simp; done) | (simp; omega)) (by go_simp)
  have kw2x0x3 := keepc hbw2 (b := w.heap.size) (o := 3) (by first | omega | (simp; done) | (simp; omega)) (by go_simp; with_reducible rfl)
  have fw2x0x3 := keepf hbw2 (b := w.heap.size) (o := 3) (by first | omega | (simp; done) | (simp; omega)) (by go_simp)
  have zw2x0 : w.heap.size < w2.heap.size := by omega
  have kw2x1x0 := keepc hbw2 (b := w.heap.size + 1) (o := 0) (by first | omega | (simp; done) | (simp; omega)) (by go_simp; with_reducible rfl)
  have fw2x1x0 := keepf hbw2 (b := w.heap.size + 1) (o := 0) (by first | omega | (simp; done) | (simp; omega)) (by go_simp)
  have kw2x1x1 := keepc hbw2 (b := w.heap.size + 1) (o := 1) (by first | omega | (simp; done) | (simp; omega)) (by go_simp; with_reducible rfl)
  have fw2x1x1 := keepf hbw2 (b := w.heap.size + 1) (o := 1) (by first | omega | (simp; done) | (simp; omega)) (by go_simp)
  have kw2x1x2 := keepc hbw2 (b := w.heap.size + 1) (o := 2) (by first | omega | (simp; done) | (simp; omega)) (by go_simp; with_reducible rfl)
  have fw2x1x2 := keepf hbw2 (b := w.heap.size + 1) (o := 2) (by first | omega | (simp; done) | (simp; omega)) (by go_simp)
  have kw2x1x3 := keepc hbw2 (b := w.heap.size + 1) (o := 3) (by first | omega | (simp; done) | (simp; omega)) (by go_simp; with_reducible rfl)
  have fw2x1x3 := keepf hbw2 (b := w.heap.size + 1) (o := 3) (by first | omega | (simp; done) | (simp; omega)) (by go_simp)
  have zw2x1 : w.heap.size + 1 < w2.heap.size := by omega
  have H_hbw2 := Lib.hid hbw2; clear hbw2
  have ho3 := H_ho2.out.set (p := ⟨w.heap.size + 1, 2, none⟩) (by simp) (.slice A2 n c2)
  have q1 := H_q1.out _ A2 c2 ho3.ints
  have H_q1 := Lib.hid q1; clear q1; have H_ho3 := Lib.hid ho3; clear ho3
  go_wp2_with fail
  refine (H_q1.out).mono ?_; rintro e w3 ⟨rfl, hbw3⟩
  have hsw3 := hbw3.size; (try simp only [World.size_alloc, World.heap_drewN, World.size_setCell, heap_drew] at hsw3)
  have gw3 : Below w.heap.size w w3 := (by (repeat (first | with_reducible exact Below.refl _ _ | with_reducible exact Nat.le_refl _ | with_reducible assumption | with_reducible refine Below.drew ?_ | with_reducible refine below_drewN ?_ _ | with_reducible refine Below.alloc ?_ ?_ _ | with_reducible refine Below.setCell ?_ ?_ _ | with_reducible exact And.right (by assumption) | with_reducible refine Below.trans ?_ (Below.mono (by assumption) ?_) | with_reducible exact Below.size (And.right (by assumption)) | (focus omega) | (focus (simp; done)) | (focus (simp; omega)) | (focus (simp at *; omega)))))
  have kw3x0x0 := keepc hbw3 (b := w.heap.size) (o := 0) (by first | omega | (simp; done) | (simp; omega)) (by go_simp; with_reducible rfl)
  have fw3x0x0 := keepf hbw3 (b := w.heap.size) (o := 0) (by first | omega | (simp; done) | (simp; omega)) (by go_simp)
  have kw3x0x1 := keepc hbw3 (b := w.heap.size) (o := 1) (by first | omega | (simp; done) | (simp; omega)) (by go_simp; with_reducible rfl)
  have fw3x0x1 := keepf hbw3 (b := w.heap.size) (o := 1) (by first | omega | (simp; done) | (simp; omega)) (by go_simp)
  have kw3x0x2 := keepc hbw3 (b := w.heap.size) (o := 2) (by first | omega | (simp; done) | (simp; omega)) (by go_simp; with_reducible rfl)
  have fw3x0x2 := keepf hbw3 (b := w.heap.size) (o := 2) (by first | omega | (simp; done) | (simp; omega)) (by go_simp)
  have kw3x0x3 := keepc hbw3 (b := w.heap.size) (o := 3) (by first | omega | (simp; done) | (simp; omega)) (by go_simp; with_reducible rfl)
  have fw3x0x3 := keepf hbw3 (b := w.heap.size) (o := 3) (by first | omega | (simp; done) | (simp; omega)) (by go_simp)
  have zw3x0 : w.heap.size < w3.heap.size := by omega
  have kw3x1x0 := keepc hbw3 (b := w.heap.size + 1) (o := 0) (by first | omega | (simp; done) | (simp; omega)) (by go_simp; with_reducible rfl)
  have fw3x1x0 := keepf hbw3 (b := w.heap.size + 1) (o := 0) (by first | omega | (simp; done) | (simp; omega)) (by go_simp)
  have kw3x1x1 := keepc hbw3 (b := w.heap.size + 1) (o := 1) (by first | omega | (simp; done) | (simp; omega)) (by go_simp; with_reducible rfl)
  have fw3x1x1 := keepf hbw3 (b := w.heap.size + 1) (o := 1) (by first | omega | (simp; done) | (simp; omega)) (by go_simp)
  have kw3x1x2 := keepc hbw3 (b := w.heap.size + 1) (o := 2) (by first | omega | (simp; done) | (simp; omega)) (by go_simp; with_reducible rfl)
  have fw3x1x2 := keepf hbw3 (b := w.heap.size + 1) (o := 2) (by first | omega | (simp; done) | (simp; omega)) (by go_simp)
  have kw3x1x3 := keepc hbw3 (b := w.heap.size + 1) (o := 3) (by first | omega | (simp; done) | (simp; omega)) (by go_simp; with_reducible rfl)
  have fw3x1x3 := keepf hbw3 (b := w.heap.size + 1) (o := 3) (by first | omega | (simp; done) | (simp; omega)) (by go_simp)
  have zw3x1 : w.heap.size + 1 < w3.heap.size := by omega
  have H_hbw3 := Lib.hid hbw3; clear hbw3
  clear gw2
  clear kw2x0x0
  clear fw2x0x0
  clear kw2x0x1
  clear fw2x0x1
  clear kw2x0x2
  clear fw2x0x2
  clear kw2x0x3
  clear fw2x0x3
  clear kw2x1x0
  clear fw2x1x0
  clear kw2x1x1
  clear fw2x1x1
  clear kw2x1x2
  clear fw2x1x2
  clear kw2x1x3
  clear fw2x1x3
  have ho4 := H_ho3.out.below H_hbw3.out
  clear ho4
  go_wp2_with fail
  refine bodyPost_ret (v := .tuple #[.agg #[.int .i64 0, .int .i64 0, .slice none 0 0, .int .u64 0], .int .i64 1]) (by simp [results, Tryd.results33, go_sem, *]) rfl (slotErr_zero (by (repeat (first | with_reducible exact Below.refl _ _ | with_reducible exact Nat.le_refl _ | with_reducible assumption | with_reducible refine Below.drew ?_ | with_reducible refine below_drewN ?_ _ | with_reducible refine Below.alloc ?_ ?_ _ | with_reducible refine Below.setCell ?_ ?_ _ | with_reducible exact And.right (by assumption) | with_reducible refine Below.trans ?_ (Below.mono (by assumption) ?_) | with_reducible exact Below.size (And.right (by assumption)) | (focus omega) | (focus (simp; done)) | (focus (simp; omega)) | (focus (simp at *; omega))))))

end Go.Proofs.YtncfilbpgomncaaDoor
