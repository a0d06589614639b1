/- Contracts of package sign: Sign, Verify. -/
import Derived.Test.YtmbmejclnagffaaDoorSgB
namespace Go.Proofs.YtmbmejclnagffaaDoor
set_option linter.unusedSimpArgs false
set_option linter.unusedVariables false
set_option maxRecDepth 100000
open Go.RowKit

set_option maxHeartbeats 1000000 in
theorem sign_yes (s o : Nat) (A : Option Addr) (c n : Nat) (l : List Int) (hln : l.length = n) (w : World) (hs : wthB s 1 = true) (ho : wthB o 1 = true) (hl : IntsAt w A .i64 l) (hn : n ≤ 100000) (hf : Fit l) (ht : Tab w) :
    Calls Tryd.prog 39 #[.int .i64 s, .int .i64 o, .slice A n c] w fun e w' => e = .returned (.tuple #[.agg #[.int .i64 (sigE s o l : Nat), .int .i64 (sigS s o l : Nat)], .int .i64 0]) ∧ Below w.heap.size w w' := by
  have hq : QQ = 1073741789 := rfl
  have h1 := wthB_iff.1 hs
  have h2 := wthB_iff.1 ho
  have q1 := fun W => within_any s 1 W
  have q2 := fun W => within_any o 1 W
  rw [hs] at q1
  rw [ho] at q2
  have q3 := fun W (h1 : IntsAt W A .i64 l) h2 => signature_any s o A c n l hln W (by omega) (by omega) h1 hn hf h2
  generalize sigE s o l = E at *
  generalize sigS s o l = S at *
  have bw : Below w.heap.size w (w.alloc (.cells #[.int .i64 0, .int .i64 0] 31)) := (Below.refl _ _).alloc (Nat.le_refl _) _
  have q4 := q3 _ (hl.below bw) (ht.below bw)
  have H_q1 := Lib.hid q1; clear q1; have H_q2 := Lib.hid q2; clear q2; have H_q3 := Lib.hid q3; clear q3; have H_q4 := Lib.hid q4; clear q4; have H_hl := Lib.hid hl; clear hl; have H_ht := Lib.hid ht; clear ht; have H_hf := Lib.hid hf; clear hf; have H_hln := Lib.hid hln; clear hln; have H_hs := Lib.hid hs; clear hs; have H_ho := Lib.hid ho; clear ho; have H_hq := Lib.hid hq; clear hq; have H_h1 := Lib.hid h1; clear h1; have H_h2 := Lib.hid h2; clear h2; have H_bw := Lib.hid bw; clear bw
  go_enter Tryd.func39, Tryd.ntmps39
  go_wp2_with fail
  refine (H_q1.out _).mono ?_
  rintro e w_ ⟨rfl, rfl⟩
  go_wp2_with fail
  refine (H_q2.out _).mono ?_
  rintro e w_ ⟨rfl, rfl⟩
  go_wp2_with fail
  refine (H_q4.out).mono ?_; rintro e w3 ⟨rfl, hbw3⟩
  have hsw3 := hbw3.size; (try simp only [World.size_alloc, World.heap_drewN, World.size_setCell, heap_drew] at hsw3)
  have gw3 : Below w.heap.size w w3 := (by (repeat (first | with_reducible exact Below.refl _ _ | with_reducible exact Nat.le_refl _ | with_reducible assumption | with_reducible refine Below.drew ?_ | with_reducible refine below_drewN ?_ _ | with_reducible refine Below.alloc ?_ ?_ _ | with_reducible refine Below.setCell ?_ ?_ _ | with_reducible exact And.right (by assumption) | with_reducible refine Below.trans ?_ (Below.mono (by assumption) ?_) | with_reducible exact Below.size (And.right (by assumption)) | (focus omega) | (focus (simp; done)) | (focus (simp; omega)) | (focus (simp at *; omega)))))
  have kw3x0x0 := keepc hbw3 (b := w.heap.size) (o := 0) (by first | omega | (simp; done) | (simp; omega)) (by go_simp; with_reducible rfl)
  have fw3x0x0 := keepf hbw3 (b := w.heap.size) (o := 0) (by first | omega | (simp; done) | (simp; omega)) (by go_simp)
  have kw3x0x1 := keepc hbw3 (b := w.heap.size) (o := 1) (by first | omega | (simp; done) | (simp; omega)) (by go_simp; with_reducible rfl)
  have fw3x0x1 := keepf hbw3 (b := w.heap.size) (o := 1) (by first | omega | (simp; done) | (simp; omega)) (by go_simp)
  have zw3x0 : w.heap.size < w3.heap.size := by omega
  have H_hbw3 := Lib.hid hbw3; clear hbw3
  go_wp2_with fail
  have c0 := set_same kw3x0x0 (.int .i64 E)
  have c1 := set_same (set_other kw3x0x1 (o' := 0) (by omega) (.int .i64 E)) (.int .i64 S)
  refine bodyPost_ret (v := .tuple #[.agg #[.int .i64 E, .int .i64 S], .int .i64 0]) (by simp [results, Tryd.results39, go_sem, c0, c1]) rfl ?_
  exact ⟨rfl, (by (repeat (first | with_reducible exact Below.refl _ _ | with_reducible exact Nat.le_refl _ | with_reducible assumption | with_reducible refine Below.drew ?_ | with_reducible refine below_drewN ?_ _ | with_reducible refine Below.alloc ?_ ?_ _ | with_reducible refine Below.setCell ?_ ?_ _ | with_reducible exact And.right (by assumption) | with_reducible refine Below.trans ?_ (Below.mono (by assumption) ?_) | with_reducible exact Below.size (And.right (by assumption)) | (focus omega) | (focus (simp; done)) | (focus (simp; omega)) | (focus (simp at *; omega)))))⟩

set_option maxHeartbeats 1000000 in
theorem sign_no (s o : Int) (A : Option Addr) (c n : Nat) (w : World) (h : (wthB s 1 && wthB o 1) = false) :
    Calls Tryd.prog 39 #[.int .i64 s, .int .i64 o, .slice A n c] w fun e w' => e = .returned (.tuple #[.agg #[.int .i64 0, .int .i64 0], .int .i64 1]) ∧ Below w.heap.size w w' := by
  have q1 := fun W => within_any s 1 W
  have q2 := fun W => within_any o 1 W
  cases hs : wthB s 1 with
  | false =>
    rw [hs] at q1
    have H_q1 := Lib.hid q1; clear q1; have H_q2 := Lib.hid q2; clear q2; have H_hs := Lib.hid hs; clear hs; have H_h := Lib.hid h; clear h
    go_enter Tryd.func39, Tryd.ntmps39
    go_wp2_with fail
    refine (H_q1.out _).mono ?_
    rintro e w_ ⟨rfl, rfl⟩
    go_wp2_with fail
    refine bodyPost_ret (by simp [results, Tryd.results39, go_sem]; rfl) rfl ?_
    exact ⟨rfl, (by (repeat (first | with_reducible exact Below.refl _ _ | with_reducible exact Nat.le_refl _ | with_reducible assumption | with_reducible refine Below.drew ?_ | with_reducible refine below_drewN ?_ _ | with_reducible refine Below.alloc ?_ ?_ _ | with_reducible refine Below.setCell ?_ ?_ _ | with_reducible exact And.right (by assumption) | with_reducible refine Below.trans ?_ (Below.mono (by assumption) ?_) | with_reducible exact Below.size (And.right (by assumption)) | (focus omega) | (focus (simp; done)) | (focus (simp; omega)) | (focus (simp at *; omega)))))⟩
  | true =>
    rw [hs] at q1
    have ho : wthB o 1 = false := by rw [hs] at h; simpa using h
    rw [ho] at q2
    have H_q1 := Lib.hid q1; clear q1; have H_q2 := Lib.hid q2; clear q2; have H_hs := Lib.hid hs; clear hs; have H_h := Lib.hid h; clear h; have H_ho := Lib.hid ho; clear ho
    go_enter Tryd.func39, Tryd.ntmps39
    go_wp2_with fail
    refine (H_q1.out _).mono ?_
    rintro e w_ ⟨rfl, rfl⟩
    go_wp2_with fail
    refine (H_q2.out _).mono ?_
    rintro e w_ ⟨rfl, rfl⟩
    go_wp2_with fail
    refine bodyPost_ret (by simp [results, Tryd.results39, go_sem]; rfl) rfl ?_
    exact ⟨rfl, (by (repeat (first | with_reducible exact Below.refl _ _ | with_reducible exact Nat.le_refl _ | with_reducible assumption | with_reducible refine Below.drew ?_ | with_reducible refine below_drewN ?_ _ | with_reducible refine Below.alloc ?_ ?_ _ | with_reducible refine Below.setCell ?_ ?_ _ | with_reducible exact And.right (by assumption) | with_reducible refine Below.trans ?_ (Below.mono (by assumption) ?_) | with_reducible exact Below.size (And.right (by assumption)) | (focus omega) | (focus (simp; done)) | (focus (simp; omega)) | (focus (simp at *; omega)))))⟩

/-- G ^ S * public ^ (Q - E) -/
def backN (p e s : Nat) : Nat := pw 4 s PP * pw p ((QQ - e) % QQ) PP % PP
theorem backN_lt (p e s : Nat) : backN p e s < PP := Nat.mod_lt _ (by decide)
/-- a signature is right -/
def rightB (p e s : Nat) (l : List Int) : Bool := e == chN ((backN p e s : Nat) :: (p : Int) :: l)
/-- the numbers of a signature and the key may be -/
def okB (p e s : Int) : Bool := memZ p && wthB e 0 && wthB s 0

theorem verify_no (p e s : Int) (A : Option Addr) (c n : Nat) (w : World) (h : okB p e s = false) :
    Calls Tryd.prog 58 #[.int .i64 p, .agg #[.int .i64 e, .int .i64 s], .slice A n c] w fun x w' => x = .returned (.tuple #[.bool false, .int .i64 1]) ∧ Below w.heap.size w w' := by
  have q1 := fun W => member_any p W
  have q2 := fun W => within_any e 0 W
  have q3 := fun W => within_any s 0 W
  cases hp : memZ p with
  | false =>
    rw [hp] at q1
    have H_q1 := Lib.hid q1; clear q1; have H_q2 := Lib.hid q2; clear q2; have H_q3 := Lib.hid q3; clear q3; have H_hp := Lib.hid hp; clear hp; have H_h := Lib.hid h; clear h
    go_enter Tryd.func58, Tryd.ntmps58
    go_wp2_with fail
    refine (H_q1.out _).mono ?_; rintro e w1 ⟨rfl, hbw1⟩
    have hsw1 := hbw1.size; (try simp only [World.size_alloc, World.heap_drewN, World.size_setCell, heap_drew] at hsw1)
    have gw1 : Below w.heap.size w w1 := (by (repeat (first | with_reducible exact Below.refl _ _ | with_reducible exact Nat.le_refl _ | with_reducible assumption | with_reducible refine Below.drew ?_ | with_reducible refine below_drewN ?_ _ | with_reducible refine Below.alloc ?_ ?_ _ | with_reducible refine Below.setCell ?_ ?_ _ | with_reducible exact And.right (by assumption) | with_reducible refine Below.trans ?_ (Below.mono (by assumption) ?_) | with_reducible exact Below.size (And.right (by assumption)) | (focus omega) | (focus (simp; done)) | (focus (simp; omega)) | (focus (simp at *; omega)))))
    have kw1x0x0 := keepc hbw1 (b := w.heap.size) (o := 0) (by first | omega | (simp; done) | (simp; omega)) (by go_simp; with_reducible rfl)
    have kw1x0x1 := keepc hbw1 (b := w.heap.size) (o := 1) (by first | omega | (simp; done) | (simp; omega)) (by go_simp; with_reducible rfl)
    have zw1x0 : w.heap.size < w1.heap.size := by omega
    have H_hbw1 := Lib.hid hbw1; clear hbw1
    go_wp2_with fail
    go_ret2
    exact ⟨rfl, gw1⟩
  | true =>
    rw [hp] at q1
    cases he : wthB e 0 with
    | false =>
      rw [he] at q2
      have H_q1 := Lib.hid q1; clear q1; have H_q2 := Lib.hid q2; clear q2; have H_q3 := Lib.hid q3; clear q3; have H_hp := Lib.hid hp; clear hp; have H_h := Lib.hid h; clear h; have H_he := Lib.hid he; clear he
      go_enter Tryd.func58, Tryd.ntmps58
      go_wp2_with fail
      refine (H_q1.out _).mono ?_; rintro e w1 ⟨rfl, hbw1⟩
      have hsw1 := hbw1.size; (try simp only [World.size_alloc, World.heap_drewN, World.size_setCell, heap_drew] at hsw1)
      have gw1 : Below w.heap.size w w1 := (by (repeat (first | with_reducible exact Below.refl _ _ | with_reducible exact Nat.le_refl _ | with_reducible assumption | with_reducible refine Below.drew ?_ | with_reducible refine below_drewN ?_ _ | with_reducible refine Below.alloc ?_ ?_ _ | with_reducible refine Below.setCell ?_ ?_ _ | with_reducible exact And.right (by assumption) | with_reducible refine Below.trans ?_ (Below.mono (by assumption) ?_) | with_reducible exact Below.size (And.right (by assumption)) | (focus omega) | (focus (simp; done)) | (focus (simp; omega)) | (focus (simp at *; omega)))))
      have kw1x0x0 := keepc hbw1 (b := w.heap.size) (o := 0) (by first | omega | (simp; done) | (simp; omega)) (by go_simp; with_reducible rfl)
      have kw1x0x1 := keepc hbw1 (b := w.heap.size) (o := 1) (by first | omega | (simp; done) | (simp; omega)) (by go_simp; with_reducible rfl)
      have zw1x0 : w.heap.size < w1.heap.size := by omega
      have H_hbw1 := Lib.hid hbw1; clear hbw1
      go_wp2_with fail
      refine (H_q2.out _).mono ?_
      rintro e w_ ⟨rfl, rfl⟩
      go_wp2_with fail
      go_ret2
      exact ⟨rfl, gw1⟩
    | true =>
      have hs : wthB s 0 = false := by simpa [okB, hp, he] using h
      rw [he] at q2
      rw [hs] at q3
      have H_q1 := Lib.hid q1; clear q1; have H_q2 := Lib.hid q2; clear q2; have H_q3 := Lib.hid q3; clear q3; have H_hp := Lib.hid hp; clear hp; have H_h := Lib.hid h; clear h; have H_he := Lib.hid he; clear he; have H_hs := Lib.hid hs; clear hs
      go_enter Tryd.func58, Tryd.ntmps58
      go_wp2_with fail
      refine (H_q1.out _).mono ?_; rintro e w1 ⟨rfl, hbw1⟩
      have hsw1 := hbw1.size; (try simp only [World.size_alloc, World.heap_drewN, World.size_setCell, heap_drew] at hsw1)
      have gw1 : Below w.heap.size w w1 := (by (repeat (first | with_reducible exact Below.refl _ _ | with_reducible exact Nat.le_refl _ | with_reducible assumption | with_reducible refine Below.drew ?_ | with_reducible refine below_drewN ?_ _ | with_reducible refine Below.alloc ?_ ?_ _ | with_reducible refine Below.setCell ?_ ?_ _ | with_reducible exact And.right (by assumption) | with_reducible refine Below.trans ?_ (Below.mono (by assumption) ?_) | with_reducible exact Below.size (And.right (by assumption)) | (focus omega) | (focus (simp; done)) | (focus (simp; omega)) | (focus (simp at *; omega)))))
      have kw1x0x0 := keepc hbw1 (b := w.heap.size) (o := 0) (by first | omega | (simp; done) | (simp; omega)) (by go_simp; with_reducible rfl)
      have kw1x0x1 := keepc hbw1 (b := w.heap.size) (o := 1) (by first | omega | (simp; done) | (simp; omega)) (by go_simp; with_reducible rfl)
      have zw1x0 : w.heap.size < w1.heap.size := by omega
      have H_hbw1 := Lib.hid hbw1; clear hbw1
      go_wp2_with fail
      refine (H_q2.out _).mono ?_
      rintro e w_ ⟨rfl, rfl⟩
      go_wp2_with fail
      refine (H_q3.out _).mono ?_
      rintro e w_ ⟨rfl, rfl⟩
      go_wp2_with fail
      go_ret2
      exact ⟨rfl, gw1⟩

theorem exp_eq (e : Nat) (he : e < QQ) : (1073741789 - (e : Int)) % 1073741789 = (((QQ - e) % QQ : Nat) : Int) := by
  simp only [QQ] at *
  omega
theorem held_end {w w1 W : World} (g : Below w.heap.size w w1) (h : (∀ b o, b < w1.heap.size → W.cell? ⟨b, o, none⟩ = w1.cell? ⟨b, o, none⟩) ∧ Below w1.heap.size w1 W) : Below w.heap.size w W := g.trans (h.2.mono g.size)
set_option maxHeartbeats 2000000 in
theorem verify_yes (p e s : Nat) (A : Option Addr) (c n : Nat) (l : List Int) (hln : l.length = n) (w : World) (hp : memZ p = true) (he : wthB e 0 = true) (hs : wthB s 0 = true) (hl : IntsAt w A .i64 l) (hn : n ≤ 100000) (hf : Fit l) (ht : Tab w) :
    Calls Tryd.prog 58 #[.int .i64 p, .agg #[.int .i64 e, .int .i64 s], .slice A n c] w fun x w' => x = .returned (.tuple #[.bool (rightB p e s l), .int .i64 0]) ∧ Below w.heap.size w w' := by
  have hq : QQ = 1073741789 := rfl
  have hpp : PP = 2147483579 := rfl
  have h1 := memZ_iff.1 hp
  have h2 := wthB_iff.1 he
  have h3 := wthB_iff.1 hs
  have q1 := fun W => member_any p W
  have q2 := fun W => within_any e 0 W
  have q3 := fun W => within_any s 0 W
  rw [hp] at q1
  rw [he] at q2
  rw [hs] at q3
  have ex := exp_eq e (by omega)
  have hK : (QQ - e) % QQ < QQ := Nat.mod_lt _ (by decide)
  have hback : backN p e s = pw 4 s PP * pw p ((QQ - e) % QQ) PP % PP := rfl
  generalize hKK : (QQ - e) % QQ = K at *
  have hb1 := cast_mulmod (pw 4 s PP) (pw p K PP)
  rw [← hback] at hb1
  have hm1 := mul_lt31 (pw_lt (a := 4) (x := s) (m := PP) (by decide)) (pw_lt (a := p) (x := K) (m := PP) (by decide))
  have hm0 : 0 ≤ ((pw 4 s PP : Nat) : Int) * ((pw p K PP : Nat) : Int) := Int.mul_nonneg (by omega) (by omega)
  have hbl := backN_lt p e s
  have q5 := fun W (h1 : IntsAt W A .i64 l) h2 => challenge_any (backN p e s : Nat) (p : Nat) A c n l hln W (by omega) (by omega) h1 hn hf h2
  have hR : rightB p e s l = (e == chN ((backN p e s : Nat) :: (p : Int) :: l)) := rfl
  generalize chN ((backN p e s : Nat) :: (p : Int) :: l) = C at *
  generalize backN p e s = B at *
  have q4a : ∀ W, Calls Tryd.prog 31 #[.int .i64 4, .int .i64 s] W fun e w' => e = .returned (.int .i64 (pw 4 s PP : Nat)) ∧ Below W.heap.size W w' := fun W => power_any 4 s W (by decide) (by omega)
  have q4b := fun W => power_any p K W (by omega) (by omega)
  generalize ((pw 4 s PP : Nat) : Int) = P1 at *
  generalize ((pw p K PP : Nat) : Int) = P2 at *
  have bw : Below w.heap.size w (w.alloc (.cells #[.int .i64 e, .int .i64 s] 31)) := (Below.refl _ _).alloc (Nat.le_refl _) _
  have z1 : IntKind.i64.wrap (1073741789 - (e : Int)) = 1073741789 - (e : Int) := IntWalk.i64_in _ (by omega)
  have z2 : (1073741789 - (e : Int)).tmod 1073741789 = (K : Int) := by rw [Int.tmod_eq_emod_of_nonneg (by omega)]; exact ex
  have z3 : IntKind.i64.wrap (P1 * P2) = P1 * P2 := IntWalk.i64_in _ (by omega)
  have z4 : (P1 * P2).tmod 2147483579 = (B : Int) := by rw [Int.tmod_eq_emod_of_nonneg (by omega)]; exact hb1
  have zc : ((e : Int) == (C : Int)) = (e == C) := by rw [Bool.eq_iff_iff, beq_iff_eq, beq_iff_eq]; omega
  have H_q1 := Lib.hid q1; clear q1; have H_q2 := Lib.hid q2; clear q2; have H_q3 := Lib.hid q3; clear q3; have H_q4a := Lib.hid q4a; clear q4a; have H_q4b := Lib.hid q4b; clear q4b; have H_q5 := Lib.hid q5; clear q5; have H_hl := Lib.hid hl; clear hl; have H_ht := Lib.hid ht; clear ht; have H_hf := Lib.hid hf; clear hf; have H_hln := Lib.hid hln; clear hln; have H_hp := Lib.hid hp; clear hp; have H_he := Lib.hid he; clear he; have H_hs := Lib.hid hs; clear hs; have H_h1 := Lib.hid h1; clear h1; have H_h2 := Lib.hid h2; clear h2; have H_h3 := Lib.hid h3; clear h3; have H_hq := Lib.hid hq; clear hq; have H_hpp := Lib.hid hpp; clear hpp; have H_ex := Lib.hid ex; clear ex; have H_hK := Lib.hid hK; clear hK; have H_hback := Lib.hid hback; clear hback; have H_hKK := Lib.hid hKK; clear hKK; have H_hb1 := Lib.hid hb1; clear hb1; have H_hR := Lib.hid hR; clear hR; have H_hbl := Lib.hid hbl; clear hbl; have H_bw := Lib.hid bw; clear bw; have H_hm1 := Lib.hid hm1; clear hm1; have H_hm0 := Lib.hid hm0; clear hm0; have H_z1 := Lib.hid z1; clear z1; have H_z2 := Lib.hid z2; clear z2; have H_z3 := Lib.hid z3; clear z3; have H_z4 := Lib.hid z4; clear z4; have H_zc := Lib.hid zc; clear zc
  go_enter Tryd.func58, Tryd.ntmps58
  go_wp2_with fail
  refine (H_q1.out _).mono ?_; rintro e w1 ⟨rfl, hbw1⟩
  have hsw1 := hbw1.size; (try simp only [World.size_alloc, World.heap_drewN, World.size_setCell, heap_drew] at hsw1)
  have gw1 : Below w.heap.size w w1 := (by (repeat (first | with_reducible exact Below.refl _ _ | with_reducible exact Nat.le_refl _ | with_reducible assumption | with_reducible refine Below.drew ?_ | with_reducible refine below_drewN ?_ _ | with_reducible refine Below.alloc ?_ ?_ _ | with_reducible refine Below.setCell ?_ ?_ _ | with_reducible exact And.right (by assumption) | with_reducible refine Below.trans ?_ (Below.mono (by assumption) ?_) | with_reducible exact Below.size (And.right (by assumption)) | (focus omega) | (focus (simp; done)) | (focus (simp; omega)) | (focus (simp at *; omega)))))
  have kw1x0x0 := keepc hbw1 (b := w.heap.size) (o := 0) (by first | omega | (simp; done) | (simp; omega)) (by go_simp; with_reducible rfl)
  have kw1x0x1 := keepc hbw1 (b := w.heap.size) (o := 1) (by first | omega | (simp; done) | (simp; omega)) (by go_simp; with_reducible rfl)
  have zw1x0 : w.heap.size < w1.heap.size := by omega
  have H_hbw1 := Lib.hid hbw1; clear hbw1
  go_wp2_with fail
  refine (H_q2.out _).mono ?_
  rintro e w_ ⟨rfl, rfl⟩
  go_wp2_with fail
  refine (H_q3.out _).mono ?_
  rintro e w_ ⟨rfl, rfl⟩
  go_wp2_with fail
  have z1 := H_z1.out
  have z2 := H_z2.out
  have z3 := H_z3.out
  have z4 := H_z4.out
  have l1 := H_hl.out.below gw1
  have t1 := H_ht.out.below gw1
  have H_l1 := Lib.hid l1; clear l1; have H_t1 := Lib.hid t1; clear t1
  go_region_held3 (fun W => (∀ b o, b < w1.heap.size → W.cell? ⟨b, o, none⟩ = w1.cell? ⟨b, o, none⟩) ∧ Below w1.heap.size w1 W) (first | (refine ext_mk ?_; (repeat (first | with_reducible exact Below.refl _ _ | with_reducible exact Nat.le_refl _ | with_reducible assumption | with_reducible refine Below.drew ?_ | with_reducible refine below_drewN ?_ _ | with_reducible refine Below.alloc ?_ ?_ _ | with_reducible refine Below.setCell ?_ ?_ _ | with_reducible exact And.right (by assumption) | with_reducible refine Below.trans ?_ (Below.mono (by assumption) ?_) | with_reducible exact Below.size (And.right (by assumption)) | (focus omega) | (focus (simp; done)) | (focus (simp; omega)) | (focus (simp at *; omega)))))) (first | (go_at_call 31; ((with_reducible refine (H_q4a.out _).mono ?_); rintro e w2 ⟨rfl, hb2⟩)) | (go_at_call 31; ((with_reducible refine (H_q4b.out _).mono ?_); rintro e w2 ⟨rfl, hb2⟩)))
  all_goals
    clear z1 z2 z3 z4
    go_wp2_with fail
    have zs : ((s : Int) == (s : Int)) = true := by simp
    have zc := H_zc.out
    generalize hec : (e == C) = EC at *
    cases EC with
    | true =>
      have H_hec := Lib.hid hec; clear hec
      go_region_held3 (fun W => (∀ b o, b < w1.heap.size → W.cell? ⟨b, o, none⟩ = w1.cell? ⟨b, o, none⟩) ∧ Below w1.heap.size w1 W) (first | (refine ext_mk ?_; (repeat (first | with_reducible exact Below.refl _ _ | with_reducible exact Nat.le_refl _ | with_reducible assumption | with_reducible refine Below.drew ?_ | with_reducible refine below_drewN ?_ _ | with_reducible refine Below.alloc ?_ ?_ _ | with_reducible refine Below.setCell ?_ ?_ _ | with_reducible exact And.right (by assumption) | with_reducible refine Below.trans ?_ (Below.mono (by assumption) ?_) | with_reducible exact Below.size (And.right (by assumption)) | (focus omega) | (focus (simp; done)) | (focus (simp; omega)) | (focus (simp at *; omega)))))) (first | (go_at_call 70; refine (H_q5.out _ ?_ ?_).mono ?_; (focus (exact H_l1.out.below (And.right (by assumption)))); (focus (exact H_t1.out.below (And.right (by assumption)))); rintro e w3 ⟨rfl, hb3⟩))
      all_goals
        go_wp2_with fail
        go_ret2
        rw [H_hR.out]
        exact ⟨rfl, held_end gw1 (by assumption)⟩
    | false =>
      have H_hec := Lib.hid hec; clear hec
      go_region_held3 (fun W => (∀ b o, b < w1.heap.size → W.cell? ⟨b, o, none⟩ = w1.cell? ⟨b, o, none⟩) ∧ Below w1.heap.size w1 W) (first | (refine ext_mk ?_; (repeat (first | with_reducible exact Below.refl _ _ | with_reducible exact Nat.le_refl _ | with_reducible assumption | with_reducible refine Below.drew ?_ | with_reducible refine below_drewN ?_ _ | with_reducible refine Below.alloc ?_ ?_ _ | with_reducible refine Below.setCell ?_ ?_ _ | with_reducible exact And.right (by assumption) | with_reducible refine Below.trans ?_ (Below.mono (by assumption) ?_) | with_reducible exact Below.size (And.right (by assumption)) | (focus omega) | (focus (simp; done)) | (focus (simp; omega)) | (focus (simp at *; omega)))))) (first | (go_at_call 70; refine (H_q5.out _ ?_ ?_).mono ?_; (focus (exact H_l1.out.below (And.right (by assumption)))); (focus (exact H_t1.out.below (And.right (by assumption)))); rintro e w3 ⟨rfl, hb3⟩))
      all_goals
        go_wp2_with fail
        go_ret2
        rw [H_hR.out]
        exact ⟨rfl, held_end gw1 (by assumption)⟩
end Go.Proofs.YtmbmejclnagffaaDoor
