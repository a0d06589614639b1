/- Contracts of the reference of sign: Sign, Back, Verify. -/
import Derived.Test.YtmbmejclnagffaaDoorSgR
namespace Go.Proofs.YtmbmejclnagffaaDoor
set_option linter.unusedSimpArgs false
set_option linter.unusedVariables false
set_option maxRecDepth 100000
open Go.RowKit

set_option maxHeartbeats 1000000 in
theorem rsign_yes (s o : Nat) (A : Option Addr) (c n : Nat) (l : List Int) (hln : l.length = n) (w : World) (hs : wthB s 1 = true) (ho : wthB o 1 = true) (hl : IntsAt w A .i64 l) (hn : n ≤ 1000) (hf : Fit l) :
    Calls Tryd.prog 47 #[.int .i64 s, .int .i64 o, .slice A n c] w fun e w' => e = .returned (.tuple #[.agg #[.int .i64 (sigE s o l : Nat), .int .i64 (sigS s o l : Nat)], .int .i64 0]) ∧ Below w.heap.size w w' := by
  have hq : QQ = 1073741789 := rfl
  have h1 := wthB_iff.1 hs
  have h2 := wthB_iff.1 ho
  have q1 := fun W => rSecret_any s W
  have q2 := fun W => rSecret_any o W
  rw [hs] at q1
  rw [ho] at q2
  have q3 := fun W => rpowP 4 o W (by decide) (by omega)
  have q4 := fun W => rpowP 4 s W (by decide) (by omega)
  have q5 := fun W (h : IntsAt W A .i64 l) => rafter_any (pw 4 o PP : Nat) (pw 4 s PP : Nat) A c n l hln W h (by omega)
  have q6 := fun W X x (h : IntsAt W X .i64 ((pw 4 o PP : Nat) :: (pw 4 s PP : Nat) :: l)) => rchal_any X x (2 + n) ((pw 4 o PP : Nat) :: (pw 4 s PP : Nat) :: l) (by simp [hln]; omega) W h (by omega) (fit_two (pw_fit _ _) (pw_fit _ _) hf)
  change ∀ W X x, IntsAt W X .i64 _ → Calls _ _ _ W (fun e w' => e = .returned (.int .i64 (sigE s o l : Nat)) ∧ _) at q6
  have hE := sigE_lt s o l
  have hS : ((sigS s o l : Nat) : Int) = ((o : Int) + (sigE s o l : Int) * s) % 1073741789 := by
    rw [sigS, Int.natCast_emod, Int.natCast_add, Int.natCast_mul]; rfl
  generalize sigE s o l = E at *
  generalize sigS s o l = S at *
  have hm : E * s ≤ 1073741789 * 1073741789 := Nat.mul_le_mul (by omega) (by omega)
  have hm1 : (E : Int) * (s : Int) ≤ 1152921504606846976 := by
    have : ((E * s : Nat) : Int) ≤ 1152921504606846976 := by omega
    rwa [Int.natCast_mul] at this
  have hm0 : 0 ≤ (E : Int) * (s : Int) := Int.mul_nonneg (by omega) (by omega)
  generalize ((pw 4 o PP : Nat) : Int) = P1 at *
  generalize ((pw 4 s PP : Nat) : Int) = P2 at *
  have ho1 : o ≤ 1073741789 := by omega
  clear hm
  have bw : Below w.heap.size w (w.alloc (.cells #[.int .i64 0, .int .i64 0] 31)) := (Below.refl _ _).alloc (Nat.le_refl _) _
  have p5 := q5 _ (hl.below bw)
  unfold NewInts at p5
  have H_q1 := Lib.hid q1; clear q1; have H_q2 := Lib.hid q2; clear q2; have H_q3 := Lib.hid q3; clear q3; have H_q4 := Lib.hid q4; clear q4; have H_q5 := Lib.hid q5; clear q5; have H_q6 := Lib.hid q6; clear q6; have H_p5 := Lib.hid p5; clear p5; have H_hl := Lib.hid hl; clear hl; have H_hf := Lib.hid hf; clear hf; have H_hln := Lib.hid hln; clear hln; have H_hs := Lib.hid hs; clear hs; have H_ho := Lib.hid ho; clear ho; have H_hq := Lib.hid hq; clear hq; have H_h1 := Lib.hid h1; clear h1; have H_h2 := Lib.hid h2; clear h2; have H_bw := Lib.hid bw; clear bw; have H_hS := Lib.hid hS; clear hS; have H_hE := Lib.hid hE; clear hE
  go_enter Tryd.func47, Tryd.ntmps47
  go_wp2_with fail
  refine (H_q1.out _).mono ?_
  rintro e w_ ⟨rfl, rfl⟩
  go_wp2_with fail
  refine (H_q2.out _).mono ?_
  rintro e w_ ⟨rfl, rfl⟩
  go_wp2_with fail
  refine (H_q3.out _).mono ?_
  rintro e w_ ⟨rfl, rfl⟩
  go_wp2_with fail
  refine (H_q4.out _).mono ?_
  rintro e w_ ⟨rfl, rfl⟩
  go_wp2_with fail
  refine (H_p5.out).mono ?_; rintro e w3 ⟨X, x, rfl, hX, hbw3⟩
  have hsw3 := hbw3.size; (try simp only [World.size_alloc, World.heap_drewN, World.size_setCell, heap_drew] at hsw3)
  have gw3 : Below w.heap.size w w3 := (by (repeat (first | with_reducible exact Below.refl _ _ | with_reducible exact Nat.le_refl _ | with_reducible assumption | with_reducible refine Below.drew ?_ | with_reducible refine below_drewN ?_ _ | with_reducible refine Below.alloc ?_ ?_ _ | with_reducible refine Below.setCell ?_ ?_ _ | with_reducible exact And.right (by assumption) | with_reducible refine Below.trans ?_ (Below.mono (by assumption) ?_) | with_reducible exact Below.size (And.right (by assumption)) | (focus omega) | (focus (simp; done)) | (focus (simp; omega)) | (focus (simp at *; omega)))))
  have kw3x0x0 := keepc hbw3 (b := w.heap.size) (o := 0) (by first | omega | (simp; done) | (simp; omega)) (by go_simp; with_reducible rfl)
  have fw3x0x0 := keepf hbw3 (b := w.heap.size) (o := 0) (by first | omega | (simp; done) | (simp; omega)) (by go_simp)
  have kw3x0x1 := keepc hbw3 (b := w.heap.size) (o := 1) (by first | omega | (simp; done) | (simp; omega)) (by go_simp; with_reducible rfl)
  have fw3x0x1 := keepf hbw3 (b := w.heap.size) (o := 1) (by first | omega | (simp; done) | (simp; omega)) (by go_simp)
  have zw3x0 : w.heap.size < w3.heap.size := by omega
  have H_hbw3 := Lib.hid hbw3; clear hbw3
  have p6 := H_q6.out w3 X x hX
  have H_p6 := Lib.hid p6; clear p6; have H_hX := Lib.hid hX; clear hX
  go_wp2_with fail
  refine (H_p6.out).mono ?_; rintro e w4 ⟨rfl, hbw4⟩
  have hsw4 := hbw4.size; (try simp only [World.size_alloc, World.heap_drewN, World.size_setCell, heap_drew] at hsw4)
  have gw4 : Below w.heap.size w w4 := (by (repeat (first | with_reducible exact Below.refl _ _ | with_reducible exact Nat.le_refl _ | with_reducible assumption | with_reducible refine Below.drew ?_ | with_reducible refine below_drewN ?_ _ | with_reducible refine Below.alloc ?_ ?_ _ | with_reducible refine Below.setCell ?_ ?_ _ | with_reducible exact And.right (by assumption) | with_reducible refine Below.trans ?_ (Below.mono (by assumption) ?_) | with_reducible exact Below.size (And.right (by assumption)) | (focus omega) | (focus (simp; done)) | (focus (simp; omega)) | (focus (simp at *; omega)))))
  have kw4x0x0 := keepc hbw4 (b := w.heap.size) (o := 0) (by first | omega | (simp; done) | (simp; omega)) (by go_simp; with_reducible rfl)
  have fw4x0x0 := keepf hbw4 (b := w.heap.size) (o := 0) (by first | omega | (simp; done) | (simp; omega)) (by go_simp)
  have kw4x0x1 := keepc hbw4 (b := w.heap.size) (o := 1) (by first | omega | (simp; done) | (simp; omega)) (by go_simp; with_reducible rfl)
  have fw4x0x1 := keepf hbw4 (b := w.heap.size) (o := 1) (by first | omega | (simp; done) | (simp; omega)) (by go_simp)
  have zw4x0 : w.heap.size < w4.heap.size := by omega
  have H_hbw4 := Lib.hid hbw4; clear hbw4
  clear gw3
  clear kw3x0x0
  clear fw3x0x0
  clear kw3x0x1
  clear fw3x0x1
  go_wp2_with fail
  have c0 := set_same kw4x0x0 (.int .i64 E)
  have c1 := set_same (set_other kw4x0x1 (o' := 0) (by omega) (.int .i64 E)) (.int .i64 (((o : Int) + (E : Int) * s) % 1073741789))
  refine bodyPost_ret (v := .tuple #[.agg #[.int .i64 E, .int .i64 (((o : Int) + (E : Int) * s) % 1073741789)], .int .i64 0]) (by simp [results, Tryd.results47, go_sem, c0, c1]) rfl ?_
  rw [H_hS.out]
  exact ⟨rfl, (by (repeat (first | with_reducible exact Below.refl _ _ | with_reducible exact Nat.le_refl _ | with_reducible assumption | with_reducible refine Below.drew ?_ | with_reducible refine below_drewN ?_ _ | with_reducible refine Below.alloc ?_ ?_ _ | with_reducible refine Below.setCell ?_ ?_ _ | with_reducible exact And.right (by assumption) | with_reducible refine Below.trans ?_ (Below.mono (by assumption) ?_) | with_reducible exact Below.size (And.right (by assumption)) | (focus omega) | (focus (simp; done)) | (focus (simp; omega)) | (focus (simp at *; omega)))))⟩

set_option maxHeartbeats 1000000 in
theorem rsign_no (s o : Int) (A : Option Addr) (c n : Nat) (w : World) (h : (wthB s 1 && wthB o 1) = false) :
    Calls Tryd.prog 47 #[.int .i64 s, .int .i64 o, .slice A n c] w fun e w' => e = .returned (.tuple #[.agg #[.int .i64 0, .int .i64 0], .int .i64 1]) ∧ Below w.heap.size w w' := by
  have q1 := fun W => rSecret_any s W
  have q2 := fun W => rSecret_any o W
  generalize wthB s 1 = M at *
  generalize wthB o 1 = N at *
  have hc : M = false ∨ (M = true ∧ N = false) := by cases M <;> simp_all
  rcases hc with rfl | ⟨rfl, rfl⟩
  all_goals
    have H_q1 := Lib.hid q1; clear q1; have H_q2 := Lib.hid q2; clear q2; have H_h := Lib.hid h; clear h
    go_enter Tryd.func47, Tryd.ntmps47
    go_wp2_with fail
    refine (H_q1.out _).mono ?_
    rintro e w_ ⟨rfl, rfl⟩
    go_wp2_with fail
    refine (H_q2.out _).mono ?_
    rintro e w_ ⟨rfl, rfl⟩
    go_wp2_with fail
    refine bodyPost_ret (by simp [results, Tryd.results47, go_sem]; rfl) rfl ?_
    exact ⟨rfl, (by (repeat (first | with_reducible exact Below.refl _ _ | with_reducible exact Nat.le_refl _ | with_reducible assumption | with_reducible refine Below.drew ?_ | with_reducible refine below_drewN ?_ _ | with_reducible refine Below.alloc ?_ ?_ _ | with_reducible refine Below.setCell ?_ ?_ _ | with_reducible exact And.right (by assumption) | with_reducible refine Below.trans ?_ (Below.mono (by assumption) ?_) | with_reducible exact Below.size (And.right (by assumption)) | (focus omega) | (focus (simp; done)) | (focus (simp; omega)) | (focus (simp at *; omega)))))⟩

set_option maxHeartbeats 2000000 in
theorem rback_any (p e s : Nat) (w : World) (hp : p < PP) (he : e < QQ) (hs : s < QQ) :
    Calls Tryd.prog 76 #[.int .i64 p, .agg #[.int .i64 e, .int .i64 s]] w fun x w' => x = .returned (.int .i64 (backN p e s : Nat)) ∧ Below w.heap.size w w' := by
  have hq : QQ = 1073741789 := rfl
  have hpp : PP = 2147483579 := rfl
  have ex := exp_eq e he
  have hK : (QQ - e) % QQ < QQ := Nat.mod_lt _ (by decide)
  have hback : backN p e s = pw 4 s PP * pw p ((QQ - e) % QQ) PP % PP := rfl
  generalize hKK : (QQ - e) % QQ = K at *
  have hb1 := cast_mulmod (pw 4 s PP) (pw p K PP)
  rw [← hback] at hb1
  have hm1 := mul_lt31 (pw_lt (a := 4) (x := s) (m := PP) (by decide)) (pw_lt (a := p) (x := K) (m := PP) (by decide))
  have hm0 : 0 ≤ ((pw 4 s PP : Nat) : Int) * ((pw p K PP : Nat) : Int) := Int.mul_nonneg (by omega) (by omega)
  generalize backN p e s = B at *
  have q4a : ∀ W, Calls Tryd.prog 66 #[.int .i64 4, .int .i64 s, .int .i64 2147483579] W fun e w' => e = .returned (.int .i64 (pw 4 s PP : Nat)) ∧ W = w' := fun W => rpowP 4 s W (by decide) (by omega)
  have q4b := fun W => rpowP p K W hp (by omega)
  generalize ((pw 4 s PP : Nat) : Int) = P1 at *
  generalize ((pw p K PP : Nat) : Int) = P2 at *
  have z1 : IntKind.i64.wrap (1073741789 - (e : Int)) = 1073741789 - (e : Int) := IntWalk.i64_in _ (by omega)
  have z2 : (1073741789 - (e : Int)).tmod 1073741789 = (K : Int) := by rw [Int.tmod_eq_emod_of_nonneg (by omega)]; exact ex
  have z3 : IntKind.i64.wrap (P1 * P2) = P1 * P2 := IntWalk.i64_in _ (by omega)
  have z4 : (P1 * P2).tmod 2147483579 = (B : Int) := by rw [Int.tmod_eq_emod_of_nonneg (by omega)]; exact hb1
  have bw : Below w.heap.size w (w.alloc (.cells #[.int .i64 e, .int .i64 s] 31)) := (Below.refl _ _).alloc (Nat.le_refl _) _
  have k0 : (w.alloc (.cells #[.int .i64 e, .int .i64 s] 31)).cell? ⟨w.heap.size, 0, none⟩ = some (.int .i64 e) := by rw [cell_of_row _ _ _ _ _ _ (heap_alloc_new w _)]; rfl
  have k1 : (w.alloc (.cells #[.int .i64 e, .int .i64 s] 31)).cell? ⟨w.heap.size, 1, none⟩ = some (.int .i64 s) := by rw [cell_of_row _ _ _ _ _ _ (heap_alloc_new w _)]; rfl
  have sz : w.heap.size < (w.alloc (.cells #[.int .i64 e, .int .i64 s] 31)).heap.size := by simp
  have H_q4a := Lib.hid q4a; clear q4a; have H_q4b := Lib.hid q4b; clear q4b; have H_hp := Lib.hid hp; clear hp; have H_he := Lib.hid he; clear he; have H_hs := Lib.hid hs; clear hs; have H_hq := Lib.hid hq; clear hq; have H_hpp := Lib.hid hpp; clear hpp; have H_ex := Lib.hid ex; clear ex; have H_hK := Lib.hid hK; clear hK; have H_hback := Lib.hid hback; clear hback; have H_hKK := Lib.hid hKK; clear hKK; have H_hb1 := Lib.hid hb1; clear hb1; have H_bw := Lib.hid bw; clear bw; have H_hm1 := Lib.hid hm1; clear hm1; have H_hm0 := Lib.hid hm0; clear hm0; have H_z1 := Lib.hid z1; clear z1; have H_z2 := Lib.hid z2; clear z2; have H_z3 := Lib.hid z3; clear z3; have H_z4 := Lib.hid z4; clear z4; have H_k0 := Lib.hid k0; clear k0; have H_k1 := Lib.hid k1; clear k1; have H_sz := Lib.hid sz; clear sz
  go_enter Tryd.func76, Tryd.ntmps76
  go_wp2_with fail
  obtain ⟨w1, hw1⟩ : ∃ w1, w.alloc (.cells #[.int .i64 e, .int .i64 s] 31) = w1 := ⟨_, rfl⟩
  rw [hw1]
  have gw1 := H_bw.out
  have k0 := H_k0.out
  have k1 := H_k1.out
  have sz := H_sz.out
  rw [hw1] at gw1 k0 k1 sz
  have z1 := H_z1.out
  have z2 := H_z2.out
  have z3 := H_z3.out
  have z4 := H_z4.out
  have H_hw1 := Lib.hid hw1; clear hw1
  clear H_k0 H_k1 H_sz H_bw
  go_region_held3 (fun W => (∀ b o, b < w1.heap.size → W.cell? ⟨b, o, none⟩ = w1.cell? ⟨b, o, none⟩) ∧ Below w1.heap.size w1 W) (first | (refine ext_mk ?_; (repeat (first | with_reducible exact Below.refl _ _ | with_reducible exact Nat.le_refl _ | with_reducible assumption | with_reducible refine Below.drew ?_ | with_reducible refine below_drewN ?_ _ | with_reducible refine Below.alloc ?_ ?_ _ | with_reducible refine Below.setCell ?_ ?_ _ | with_reducible exact And.right (by assumption) | with_reducible refine Below.trans ?_ (Below.mono (by assumption) ?_) | with_reducible exact Below.size (And.right (by assumption)) | (focus omega) | (focus (simp; done)) | (focus (simp; omega)) | (focus (simp at *; omega)))))) (first | (go_at_call 66; ((with_reducible refine (H_q4a.out _).mono ?_); rintro e w2 ⟨rfl, rfl⟩)) | (go_at_call 66; ((with_reducible refine (H_q4b.out _).mono ?_); rintro e w2 ⟨rfl, rfl⟩)))
  all_goals
    clear z1 z2 z3 z4
    go_wp2_with fail
    go_ret
    exact ⟨rfl, held_end gw1 (by assumption)⟩
end Go.Proofs.YtmbmejclnagffaaDoor
