/- Blocks of cells that may be written. -/
import Derived.ProofKit
import Derived.OpenShut
import Derived.ChangeOld
import Derived.Deep.Matrix
import Derived.DataShut
import Derived.SizedLaws
import Derived.Test.YtoehobaigfmnpaaGreatDoorMq1
import Derived.Test.YtoehobaigfmnpaaGreatDoorMq4
import Derived.Test.YtoehobaigfmnpaaGreatDoorMq8
set_option linter.unusedSimpArgs false
set_option linter.unusedVariables false
set_option maxRecDepth 100000
namespace Go.Proofs.YtoehobaigfmnpaaGreatDoor
open Go.RowKit
set_option maxHeartbeats 1000000 in
theorem sign_yes (s o : Nat) (A : Option Addr) (c n : Nat) (l : List Int) (hln : l.length = n) (w : World) (hs : wthB s 1 = true) (ho : wthB o 1 = true) (hl : IntsAt w A .i64 l) (hn : n ≤ 100000) (hf : Fit l) (ht : Tab w) :
  Calls Tryz.prog 77 #[.int .i64 s, .int .i64 o, .slice A n c] w fun e w' => e = .returned (.tuple #[.agg #[.int .i64 (sigE s o l : Nat), .int .i64 (sigS s o l : Nat)], .int .i64 0]) ∧ Below w.heap.size w w' := by
 have hq : QQ = 1073741789 := rfl
 have h1 := wthB_iff.1 hs
 have h2 := wthB_iff.1 ho
 have q1 := fun W => within_any s 1 W
 have q2 := fun W => within_any o 1 W
 rw [hs] at q1
 rw [ho] at q2
 have q3 := fun W (h1 : IntsAt W A .i64 l) h2 => signature_any s o A c n l hln W (by omega) (by omega) h1 hn hf h2
 generalize sigE s o l = E at *
 generalize sigS s o l = S at *
 have bw : Below w.heap.size w (w.alloc (.cells #[.int .i64 0, .int .i64 0] 30)) := (Below.refl _ _).alloc (Nat.le_refl _) _
 have q4 := q3 _ (hl.below bw) (ht.below bw)
 have ⟨H_q1, H_q2, H_q3, H_q4, H_hl, H_ht, H_hf, H_hln⟩ := hid8 q1 q2 q3 q4 hl ht hf hln; clear q1 q2 q3 q4 hl ht hf hln; have ⟨H_hs, H_ho, H_hq, H_h1, H_h2, H_bw⟩ := hid6 hs ho hq h1 h2 bw; clear hs ho hq h1 h2 bw
 go_enter Tryz.func77, Tryz.ntmps77
 go_wp2_with fail
 refine (H_q1.out _).mono ?_
 rintro e w_ ⟨rfl, rfl⟩
 go_wp2_with fail
 refine (H_q2.out _).mono ?_
 rintro e w_ ⟨rfl, rfl⟩
 go_wp2_with fail
 refine (H_q4.out).mono ?_; rintro e w3 ⟨rfl, hbw3⟩
 have hsw3 := hbw3.size; (try simp only [World.size_alloc, World.heap_drewN, World.size_setCell, heap_drew] at hsw3)
 have gw3 : Below w.heap.size w w3 := belt
 have kw3x0x0 := keepc hbw3 (b := w.heap.size) (o := 0) omg (by go_simp; with_reducible rfl)
 have fw3x0x0 := keepf hbw3 (b := w.heap.size) (o := 0) omg (by go_simp)
 have kw3x0x1 := keepc hbw3 (b := w.heap.size) (o := 1) omg (by go_simp; with_reducible rfl)
 have fw3x0x1 := keepf hbw3 (b := w.heap.size) (o := 1) omg (by go_simp)
 have zw3x0 : w.heap.size < w3.heap.size := by omega
 have H_hbw3 := Lib.hid hbw3; clear hbw3
 go_wp2_with fail
 have c0 := set_same kw3x0x0 (.int .i64 E)
 have c1 := set_same (set_other kw3x0x1 (o' := 0) (by omega) (.int .i64 E)) (.int .i64 S)
 refine bodyPost_ret (v := .tuple #[.agg #[.int .i64 E, .int .i64 S], .int .i64 0]) (by simp [results, Tryz.results77, go_sem, c0, c1]) rfl ?_
 exact ⟨rfl, belt⟩
set_option maxHeartbeats 1000000 in
theorem sign_no (s o : Int) (A : Option Addr) (c n : Nat) (w : World) (h : (wthB s 1 && wthB o 1) = false) :
  Calls Tryz.prog 77 #[.int .i64 s, .int .i64 o, .slice A n c] w fun e w' => e = .returned (.tuple #[.agg #[.int .i64 0, .int .i64 0], .int .i64 1]) ∧ Below w.heap.size w w' := by
 have q1 := fun W => within_any s 1 W
 have q2 := fun W => within_any o 1 W
 cases hs : wthB s 1 with
 | false =>
  rw [hs] at q1
  have ⟨H_q1, H_q2, H_hs, H_h⟩ := hid4 q1 q2 hs h; clear q1 q2 hs h
  go_enter Tryz.func77, Tryz.ntmps77
  go_wp2_with fail
  refine (H_q1.out _).mono ?_
  rintro e w_ ⟨rfl, rfl⟩
  go_wp2_with fail
  refine bodyPost_ret (by simp [results, Tryz.results77, go_sem]; rfl) rfl ?_
  exact ⟨rfl, belt⟩
 | true =>
  rw [hs] at q1
  have ho : wthB o 1 = false := by rw [hs] at h; simpa using h
  rw [ho] at q2
  have ⟨H_q1, H_q2, H_hs, H_h, H_ho⟩ := hid5 q1 q2 hs h ho; clear q1 q2 hs h ho
  go_enter Tryz.func77, Tryz.ntmps77
  go_wp2_with fail
  refine (H_q1.out _).mono ?_
  rintro e w_ ⟨rfl, rfl⟩
  go_wp2_with fail
  refine (H_q2.out _).mono ?_
  rintro e w_ ⟨rfl, rfl⟩
  go_wp2_with fail
  refine bodyPost_ret (by simp [results, Tryz.results77, go_sem]; rfl) rfl ?_
  exact ⟨rfl, belt⟩
def backN (p e s : Nat) : Nat := pw 4 s PP * pw p ((QQ - e) % QQ) PP % PP
theorem backN_lt (p e s : Nat) : backN p e s < PP := Nat.mod_lt _ (by decide)
def rightB (p e s : Nat) (l : List Int) : Bool := e == chN ((backN p e s : Nat) :: (p : Int) :: l)
def okB (p e s : Int) : Bool := memZ p && wthB e 0 && wthB s 0
theorem verify_no (p e s : Int) (A : Option Addr) (c n : Nat) (w : World) (h : okB p e s = false) :
  Calls Tryz.prog 44 #[.int .i64 p, .agg #[.int .i64 e, .int .i64 s], .slice A n c] w fun x w' => x = .returned (.tuple #[.bool false, .int .i64 1]) ∧ Below w.heap.size w w' := by
 have q1 := fun W => member_any p W
 have q2 := fun W => within_any e 0 W
 have q3 := fun W => within_any s 0 W
 cases hp : memZ p with
 | false =>
  rw [hp] at q1
  have ⟨H_q1, H_q2, H_q3, H_hp, H_h⟩ := hid5 q1 q2 q3 hp h; clear q1 q2 q3 hp h
  go_enter Tryz.func44, Tryz.ntmps44
  go_wp2_with fail
  refine (H_q1.out _).mono ?_; rintro e w1 ⟨rfl, hbw1⟩
  have hsw1 := hbw1.size; (try simp only [World.size_alloc, World.heap_drewN, World.size_setCell, heap_drew] at hsw1)
  have gw1 : Below w.heap.size w w1 := belt
  have kw1x0x0 := keepc hbw1 (b := w.heap.size) (o := 0) omg (by go_simp; with_reducible rfl)
  have kw1x0x1 := keepc hbw1 (b := w.heap.size) (o := 1) omg (by go_simp; with_reducible rfl)
  have zw1x0 : w.heap.size < w1.heap.size := by omega
  have H_hbw1 := Lib.hid hbw1; clear hbw1
  go_wp2_with fail
  go_ret2
  exact ⟨rfl, gw1⟩
 | true =>
  rw [hp] at q1
  cases he : wthB e 0 with
  | false =>
   rw [he] at q2
   have ⟨H_q1, H_q2, H_q3, H_hp, H_h, H_he⟩ := hid6 q1 q2 q3 hp h he; clear q1 q2 q3 hp h he
   go_enter Tryz.func44, Tryz.ntmps44
   go_wp2_with fail
   refine (H_q1.out _).mono ?_; rintro e w1 ⟨rfl, hbw1⟩
   have hsw1 := hbw1.size; (try simp only [World.size_alloc, World.heap_drewN, World.size_setCell, heap_drew] at hsw1)
   have gw1 : Below w.heap.size w w1 := belt
   have kw1x0x0 := keepc hbw1 (b := w.heap.size) (o := 0) omg (by go_simp; with_reducible rfl)
   have kw1x0x1 := keepc hbw1 (b := w.heap.size) (o := 1) omg (by go_simp; with_reducible rfl)
   have zw1x0 : w.heap.size < w1.heap.size := by omega
   have H_hbw1 := Lib.hid hbw1; clear hbw1
   go_wp2_with fail
   refine (H_q2.out _).mono ?_
   rintro e w_ ⟨rfl, rfl⟩
   go_wp2_with fail
   go_ret2
   exact ⟨rfl, gw1⟩
  | true =>
   have hs : wthB s 0 = false := by simpa [okB, hp, he] using h
   rw [he] at q2
   rw [hs] at q3
   have ⟨H_q1, H_q2, H_q3, H_hp, H_h, H_he, H_hs⟩ := hid7 q1 q2 q3 hp h he hs; clear q1 q2 q3 hp h he hs
   go_enter Tryz.func44, Tryz.ntmps44
   go_wp2_with fail
   refine (H_q1.out _).mono ?_; rintro e w1 ⟨rfl, hbw1⟩
   have hsw1 := hbw1.size; (try simp only [World.size_alloc, World.heap_drewN, World.size_setCell, heap_drew] at hsw1)
   have gw1 : Below w.heap.size w w1 := belt
   have kw1x0x0 := keepc hbw1 (b := w.heap.size) (o := 0) omg (by go_simp; with_reducible rfl)
   have kw1x0x1 := keepc hbw1 (b := w.heap.size) (o := 1) omg (by go_simp; with_reducible rfl)
   have zw1x0 : w.heap.size < w1.heap.size := by omega
   have H_hbw1 := Lib.hid hbw1; clear hbw1
   go_wp2_with fail
   refine (H_q2.out _).mono ?_
   rintro e w_ ⟨rfl, rfl⟩
   go_wp2_with fail
   refine (H_q3.out _).mono ?_
   rintro e w_ ⟨rfl, rfl⟩
   go_wp2_with fail
   go_ret2
   exact ⟨rfl, gw1⟩
theorem exp_eq (e : Nat) (he : e < QQ) : (1073741789 - (e : Int)) % 1073741789 = (((QQ - e) % QQ : Nat) : Int) := by
 simp only [QQ] at *
 omega
theorem held_end {w w1 W : World} (g : Below w.heap.size w w1) (h : (∀ b o, b < w1.heap.size → W.cell? ⟨b, o, none⟩ = w1.cell? ⟨b, o, none⟩) ∧ Below w1.heap.size w1 W) : Below w.heap.size w W := g.trans (h.2.mono g.size)
set_option maxHeartbeats 2000000 in
theorem verify_yes (p e s : Nat) (A : Option Addr) (c n : Nat) (l : List Int) (hln : l.length = n) (w : World) (hp : memZ p = true) (he : wthB e 0 = true) (hs : wthB s 0 = true) (hl : IntsAt w A .i64 l) (hn : n ≤ 100000) (hf : Fit l) (ht : Tab w) :
  Calls Tryz.prog 44 #[.int .i64 p, .agg #[.int .i64 e, .int .i64 s], .slice A n c] w fun x w' => x = .returned (.tuple #[.bool (rightB p e s l), .int .i64 0]) ∧ Below w.heap.size w w' := by
 have hq : QQ = 1073741789 := rfl
 have hpp : PP = 2147483579 := rfl
 have h1 := memZ_iff.1 hp
 have h2 := wthB_iff.1 he
 have h3 := wthB_iff.1 hs
 have q1 := fun W => member_any p W
 have q2 := fun W => within_any e 0 W
 have q3 := fun W => within_any s 0 W
 rw [hp] at q1
 rw [he] at q2
 rw [hs] at q3
 have ex := exp_eq e (by omega)
 have hK : (QQ - e) % QQ < QQ := Nat.mod_lt _ (by decide)
 have hback : backN p e s = pw 4 s PP * pw p ((QQ - e) % QQ) PP % PP := rfl
 generalize hKK : (QQ - e) % QQ = K at *
 have hb1 := cast_mulmod (pw 4 s PP) (pw p K PP)
 rw [← hback] at hb1
 have hm1 := mul_lt31 (pw_lt (a := 4) (x := s) (m := PP) (by decide)) (pw_lt (a := p) (x := K) (m := PP) (by decide))
 have hm0 : 0 ≤ ((pw 4 s PP : Nat) : Int) * ((pw p K PP : Nat) : Int) := Int.mul_nonneg (by omega) (by omega)
 have hbl := backN_lt p e s
 have q5 := fun W (h1 : IntsAt W A .i64 l) h2 => challenge_any (backN p e s : Nat) (p : Nat) A c n l hln W (by omega) (by omega) h1 hn hf h2
 have hR : rightB p e s l = (e == chN ((backN p e s : Nat) :: (p : Int) :: l)) := rfl
 generalize chN ((backN p e s : Nat) :: (p : Int) :: l) = C at *
 generalize backN p e s = B at *
 have q4a : ∀ W, Calls Tryz.prog 75 #[.int .i64 4, .int .i64 s] W fun e w' => e = .returned (.int .i64 (pw 4 s PP : Nat)) ∧ Below W.heap.size W w' := fun W => power_any 4 s W (by decide) (by omega)
 have q4b := fun W => power_any p K W (by omega) (by omega)
 generalize ((pw 4 s PP : Nat) : Int) = P1 at *
 generalize ((pw p K PP : Nat) : Int) = P2 at *
 have bw : Below w.heap.size w (w.alloc (.cells #[.int .i64 e, .int .i64 s] 30)) := (Below.refl _ _).alloc (Nat.le_refl _) _
 have z1 : IntKind.i64.wrap (1073741789 - (e : Int)) = 1073741789 - (e : Int) := IntWalk.i64_in _ (by omega)
 have z2 : (1073741789 - (e : Int)).tmod 1073741789 = (K : Int) := by rw [Int.tmod_eq_emod_of_nonneg (by omega)]; exact ex
 have z3 : IntKind.i64.wrap (P1 * P2) = P1 * P2 := IntWalk.i64_in _ (by omega)
 have z4 : (P1 * P2).tmod 2147483579 = (B : Int) := by rw [Int.tmod_eq_emod_of_nonneg (by omega)]; exact hb1
 have zc : ((e : Int) == (C : Int)) = (e == C) := by rw [Bool.eq_iff_iff, beq_iff_eq, beq_iff_eq]; omega
 have ⟨H_q1, H_q2, H_q3, H_q4a, H_q4b, H_q5, H_hl, H_ht⟩ := hid8 q1 q2 q3 q4a q4b q5 hl ht; clear q1 q2 q3 q4a q4b q5 hl ht; have ⟨H_hf, H_hln, H_hp, H_he, H_hs, H_h1, H_h2, H_h3⟩ := hid8 hf hln hp he hs h1 h2 h3; clear hf hln hp he hs h1 h2 h3; have ⟨H_hq, H_hpp, H_ex, H_hK, H_hback, H_hKK, H_hb1, H_hR⟩ := hid8 hq hpp ex hK hback hKK hb1 hR; clear hq hpp ex hK hback hKK hb1 hR; have ⟨H_hbl, H_bw, H_hm1, H_hm0, H_z1, H_z2, H_z3, H_z4⟩ := hid8 hbl bw hm1 hm0 z1 z2 z3 z4; clear hbl bw hm1 hm0 z1 z2 z3 z4; have H_zc := Lib.hid zc; clear zc
 go_enter Tryz.func44, Tryz.ntmps44
 go_wp2_with fail
 refine (H_q1.out _).mono ?_; rintro e w1 ⟨rfl, hbw1⟩
 have hsw1 := hbw1.size; (try simp only [World.size_alloc, World.heap_drewN, World.size_setCell, heap_drew] at hsw1)
 have gw1 : Below w.heap.size w w1 := belt
 have kw1x0x0 := keepc hbw1 (b := w.heap.size) (o := 0) omg (by go_simp; with_reducible rfl)
 have kw1x0x1 := keepc hbw1 (b := w.heap.size) (o := 1) omg (by go_simp; with_reducible rfl)
 have zw1x0 : w.heap.size < w1.heap.size := by omega
 have H_hbw1 := Lib.hid hbw1; clear hbw1
 go_wp2_with fail
 refine (H_q2.out _).mono ?_
 rintro e w_ ⟨rfl, rfl⟩
 go_wp2_with fail
 refine (H_q3.out _).mono ?_
 rintro e w_ ⟨rfl, rfl⟩
 go_wp2_with fail
 have z1 := H_z1.out
 have z2 := H_z2.out
 have z3 := H_z3.out
 have z4 := H_z4.out
 have l1 := H_hl.out.below gw1
 have t1 := H_ht.out.below gw1
 have ⟨H_l1, H_t1⟩ := hid2 l1 t1; clear l1 t1
 go_region_held3 (fun W => (∀ b o, b < w1.heap.size → W.cell? ⟨b, o, none⟩ = w1.cell? ⟨b, o, none⟩) ∧ Below w1.heap.size w1 W) (first | (refine ext_mk ?_; exact belt)) (first | (go_at_call 75; ((with_reducible refine (H_q4a.out _).mono ?_); rintro e w2 ⟨rfl, hb2⟩)) | (go_at_call 75; ((with_reducible refine (H_q4b.out _).mono ?_); rintro e w2 ⟨rfl, hb2⟩)))
 all_goals
  clear z1 z2 z3 z4
  go_wp2_with fail
  have zs : ((s : Int) == (s : Int)) = true := by simp
  have zc := H_zc.out
  generalize hec : (e == C) = EC at *
  cases EC with
  | true =>
   have H_hec := Lib.hid hec; clear hec
   go_region_held3 (fun W => (∀ b o, b < w1.heap.size → W.cell? ⟨b, o, none⟩ = w1.cell? ⟨b, o, none⟩) ∧ Below w1.heap.size w1 W) (first | (refine ext_mk ?_; exact belt)) (first | (go_at_call 76; refine (H_q5.out _ ?_ ?_).mono ?_; (focus (exact H_l1.out.below (And.right (by assumption)))); (focus (exact H_t1.out.below (And.right (by assumption)))); rintro e w3 ⟨rfl, hb3⟩))
   all_goals
    go_wp2_with fail
    go_ret2
    rw [H_hR.out]
    exact ⟨rfl, held_end gw1 (by assumption)⟩
  | false =>
   have H_hec := Lib.hid hec; clear hec
   go_region_held3 (fun W => (∀ b o, b < w1.heap.size → W.cell? ⟨b, o, none⟩ = w1.cell? ⟨b, o, none⟩) ∧ Below w1.heap.size w1 W) (first | (refine ext_mk ?_; exact belt)) (first | (go_at_call 76; refine (H_q5.out _ ?_ ?_).mono ?_; (focus (exact H_l1.out.below (And.right (by assumption)))); (focus (exact H_t1.out.below (And.right (by assumption)))); rintro e w3 ⟨rfl, hb3⟩))
   all_goals
    go_wp2_with fail
    go_ret2
    rw [H_hR.out]
    exact ⟨rfl, held_end gw1 (by assumption)⟩
section
open Go.RowKit Go.ChangeShapes Go.WideShapes Go.ChangeAt
theorem addr_add {a : Addr} {w : World} {v : Value} {i : Nat} (h : w.cell? (a.add i) = some v) (h0 : a.spot = none) : w.cell? ⟨a.block, a.off + i, none⟩ = some v := by
 rw [← h]
 unfold Addr.add
 split
 ·rename_i h1; subst h1; obtain ⟨b, o, s⟩ := a; simp at h0; subst h0; rfl
 ·rfl
theorem cell_lt {w : World} {a : Addr} {v : Value} (h : w.cell? a = some v) : a.block < w.heap.size := by
 unfold World.cell? at h
 rcases Nat.lt_or_ge a.block w.heap.size with h1 | h1
 ·exact h1
 ·rw [Array.getElem?_eq_none h1] at h; cases h
theorem ints_of_cells {w : World} {a : Addr} {k : IntKind} {l : List Int} (h : ∀ i, i < l.length → w.cell? (a.add i) = some (.int k (l.getD i 0))) : IntsAt w (some a) k l := fun i hi => by
 have h0 : w.cell? a = some (.int k (l.getD 0 0)) := h 0 (by omega)
 have hs := World.cell?_spot h0
 exact ⟨a.block, a.off, by obtain ⟨b, o, s⟩ := a; simp at hs; subst hs; rfl, cell_lt h0, addr_add (h i hi) hs⟩
theorem wf_i64 {n : Int} (h : (Lit.int .i64 n).wf = true) : -9223372036854775808 ≤ n ∧ n ≤ 9223372036854775807 := by
 rw [Lit.wf_int_iff] at h; exact h
theorem wf_u64 {n : Int} (h : (Lit.int .u64 n).wf = true) : 0 ≤ n ∧ n ≤ 18446744073709551615 := by
 rw [Lit.wf_int_iff] at h; exact h
end
theorem right_law (s o : Nat) (l : List Int) : rightB (pw 4 s PP) (sigE s o l) (sigS s o l) l = true := by
 rw [rightB, backN, sigS, back_right s o _ (sigE_lt s o l), beq_iff_eq]; rfl
theorem pw45 : pw 4 5 PP = 1024 := by decide
theorem nat_beq (a b : Nat) : ((a : Int) == (b : Int)) = (a == b) := by rw [Bool.eq_iff_iff, beq_iff_eq, beq_iff_eq]; omega
theorem nameC {W w : World} (h : W = w) {b o : Nat} {v : Value} (hc : W.cell? ⟨b, o, none⟩ = some v) : w.cell? ⟨b, o, none⟩ = some v := h ▸ hc
theorem nameF {W w : World} (h : W = w) {b o : Nat} (hc : W.frozen? ⟨b, o, none⟩ = false) : w.frozen? ⟨b, o, none⟩ = false := h ▸ hc
def Blk (w : World) (b : Nat) (vs : Array Value) : Prop := ∀ o v, vs[o]? = some v → Cel w b o v
theorem Blk.below {w w' : World} {b : Nat} {vs : Array Value} (h : Blk w b vs) (hb : Below w.heap.size w w') : Blk w' b vs := fun o v hv => (h o v hv).below hb
theorem blk_new {w : World} {vs : Array Value} {t : TypeId} {n : Nat} (hn : w.heap.size = n) : Blk (w.alloc (.cells vs t)) n vs := fun _ _ h => cel_new hn h
theorem Blk.alloc {w : World} {b : Nat} {vs : Array Value} (h : Blk w b vs) (x : Obj) : Blk (w.alloc x) b vs := fun o v hv => (h o v hv).alloc x
theorem Blk.set {w : World} {b : Nat} {vs : Array Value} (h : Blk w b vs) (o : Nat) (u : Value) (ho : o < vs.size) : Blk (w.setCell ⟨b, o, none⟩ u) b (vs.setIfInBounds o u) := fun i v hi => by
 by_cases e : i = o
 ·subst e
  have : v = u := by simpa [Array.getElem?_setIfInBounds, ho] using hi.symm
  subst this
  exact (h i _ (Array.getElem?_eq_getElem ho)).same v
 ·have hv : vs[i]? = some v := by simpa [Array.getElem?_setIfInBounds, Ne.symm e] using hi
  exact (h i v hv).near (fun h2 => e h2.symm) u
theorem Blk.far {w : World} {b : Nat} {vs : Array Value} (h : Blk w b vs) {g o : Nat} (hg : g ≠ b) (u : Value) : Blk (w.setCell ⟨g, o, none⟩ u) b vs := fun i v hi => (h i v hi).far hg u
def putL (w : World) (b : Nat) : Nat → List Value → World
 | _, [] => w
 | o, v :: r => putL (w.setCell ⟨b, o, none⟩ v) b (o + 1) r
theorem putL_size {b : Nat} : ∀ (vs : List Value) (w : World) (o : Nat), (putL w b o vs).heap.size = w.heap.size
 | [], w, o => rfl
 | v :: r, w, o => by rw [putL, putL_size r]; simp
theorem putL_below {B b : Nat} {w0 : World} (hb : B ≤ b) : ∀ (vs : List Value) (w : World) (o : Nat), Below B w0 w → Below B w0 (putL w b o vs)
 | [], w, o, h => h
 | v :: r, w, o, h => putL_below hb r _ _ (below_set h hb o v)
theorem putL_cfar {b g j : Nat} {u : Value} (hne : b ≠ g) : ∀ (vs : List Value) (w : World) (o : Nat), Cel w g j u → Cel (putL w b o vs) g j u
 | [], w, o, h => h
 | v :: r, w, o, h => putL_cfar hne r _ _ (h.far hne v)
theorem putL_far {b g : Nat} {us : Array Value} {w : World} (h : Blk w g us) (hne : b ≠ g) (o : Nat) (vs : List Value) : Blk (putL w b o vs) g us := fun i v hi => putL_cfar hne vs w o (h i v hi)
theorem putL_near {b j : Nat} {u : Value} : ∀ (vs : List Value) (w : World) (o : Nat), j < o → Cel w b j u → Cel (putL w b o vs) b j u
 | [], w, o, _, h => h
 | v :: r, w, o, hj, h => putL_near r _ _ (by omega) (h.near (by omega) v)
theorem putL_cel {b : Nat} : ∀ (vs : List Value) (w : World) (o : Nat), (∀ i, i < vs.length → ∃ u, Cel w b (o + i) u) → ∀ i v, vs[i]? = some v → Cel (putL w b o vs) b (o + i) v
 | [], w, o, _, i, v, h => by simp at h
 | x :: r, w, o, hc, i, v, h => by
  obtain ⟨u0, h0⟩ := hc 0 (by simp)
  rw [Nat.add_zero] at h0
  cases i with
  | zero =>
   have e : x = v := by simpa using h
   subst e
   exact putL_near r _ _ (by omega) (h0.same x)
  | succ i =>
   have := putL_cel r (w.setCell ⟨b, o, none⟩ x) (o + 1) (fun i hi => by
    obtain ⟨u, hu⟩ := hc (i + 1) (by simpa using hi)
    exact ⟨u, by rw [show o + 1 + i = o + (i + 1) by omega]; exact hu.near (by omega) x⟩) i v (by simpa using h)
   rw [putL, show o + (i + 1) = o + 1 + i by omega]; exact this
theorem putL_blk {w : World} {b : Nat} {us : Array Value} (h : Blk w b us) (vs : List Value) (hs : vs.length ≤ us.size) : Blk (putL w b 0 vs) b vs.toArray := fun i v hi => by
 have := putL_cel vs w 0 (fun i hi => ⟨us[i]'(by omega), by rw [Nat.zero_add]; exact h i _ (Array.getElem?_eq_getElem (by omega))⟩) i v (by simpa using hi)
 rw [Nat.zero_add] at this; exact this
theorem putL_ints {b : Nat} {k : IntKind} {A : Option Addr} {l : List Int} (hne : ∀ b' off, l ≠ [] → A = some ⟨b', off, none⟩ → b' ≠ b) : ∀ (vs : List Value) (w : World) (o : Nat), IntsAt w A k l → IntsAt (putL w b o vs) A k l
 | [], w, o, h => h
 | v :: r, w, o, h => putL_ints hne r _ _ fun i hi => by
  obtain ⟨b', off, e, h1, h2⟩ := h i hi
  have hn := hne b' off (fun e => by rw [e] at hi; simp at hi) e
  refine ⟨b', off, e, by simpa using h1, ?_⟩
  rw [World.cell?_setCell_other w ⟨b, o, none⟩ ⟨b', off + i, none⟩ v (fun e => by injection e with e1 _; exact hn e1.symm)]; exact h2
theorem at4_of {w : World} {b : Nat} {v0 v1 v2 v3 : Value} (h : Blk w b #[v0, v1, v2, v3]) : w.cell? ⟨b, 0, none⟩ = some v0 ∧ w.cell? ⟨b, 1, none⟩ = some v1 ∧ w.cell? ⟨b, 2, none⟩ = some v2 ∧ w.cell? ⟨b, 3, none⟩ = some v3 := ⟨(h 0 _ rfl).at, (h 1 _ rfl).at, (h 2 _ rfl).at, (h 3 _ rfl).at⟩
theorem at9_of {w : World} {b : Nat} {v0 v1 v2 v3 v4 v5 v6 v7 v8 : Value} (h : Blk w b #[v0, v1, v2, v3, v4, v5, v6, v7, v8]) : w.cell? ⟨b, 0, none⟩ = some v0 ∧ w.cell? ⟨b, 1, none⟩ = some v1 ∧ w.cell? ⟨b, 2, none⟩ = some v2 ∧ w.cell? ⟨b, 3, none⟩ = some v3 ∧ w.cell? ⟨b, 4, none⟩ = some v4 ∧ w.cell? ⟨b, 5, none⟩ = some v5 ∧ w.cell? ⟨b, 6, none⟩ = some v6 ∧ w.cell? ⟨b, 7, none⟩ = some v7 ∧ w.cell? ⟨b, 8, none⟩ = some v8 := ⟨(h 0 _ rfl).at, (h 1 _ rfl).at, (h 2 _ rfl).at, (h 3 _ rfl).at, (h 4 _ rfl).at, (h 5 _ rfl).at, (h 6 _ rfl).at, (h 7 _ rfl).at, (h 8 _ rfl).at⟩
theorem at12_of {w : World} {b : Nat} {v0 v1 v2 v3 v4 v5 v6 v7 v8 v9 v10 v11 : Value} (h : Blk w b #[v0, v1, v2, v3, v4, v5, v6, v7, v8, v9, v10, v11]) : w.cell? ⟨b, 0, none⟩ = some v0 ∧ w.cell? ⟨b, 1, none⟩ = some v1 ∧ w.cell? ⟨b, 2, none⟩ = some v2 ∧ w.cell? ⟨b, 3, none⟩ = some v3 ∧ w.cell? ⟨b, 4, none⟩ = some v4 ∧ w.cell? ⟨b, 5, none⟩ = some v5 ∧ w.cell? ⟨b, 6, none⟩ = some v6 ∧ w.cell? ⟨b, 7, none⟩ = some v7 ∧ w.cell? ⟨b, 8, none⟩ = some v8 ∧ w.cell? ⟨b, 9, none⟩ = some v9 ∧ w.cell? ⟨b, 10, none⟩ = some v10 ∧ w.cell? ⟨b, 11, none⟩ = some v11 := ⟨(h 0 _ rfl).at, (h 1 _ rfl).at, (h 2 _ rfl).at, (h 3 _ rfl).at, (h 4 _ rfl).at, (h 5 _ rfl).at, (h 6 _ rfl).at, (h 7 _ rfl).at, (h 8 _ rfl).at, (h 9 _ rfl).at, (h 10 _ rfl).at, (h 11 _ rfl).at⟩
theorem free4_of {w : World} {b : Nat} {v0 v1 v2 v3 : Value} (h : Blk w b #[v0, v1, v2, v3]) : w.frozen? ⟨b, 0, none⟩ = false ∧ w.frozen? ⟨b, 1, none⟩ = false ∧ w.frozen? ⟨b, 2, none⟩ = false ∧ w.frozen? ⟨b, 3, none⟩ = false := ⟨(h 0 _ rfl).free, (h 1 _ rfl).free, (h 2 _ rfl).free, (h 3 _ rfl).free⟩
theorem free9_of {w : World} {b : Nat} {v0 v1 v2 v3 v4 v5 v6 v7 v8 : Value} (h : Blk w b #[v0, v1, v2, v3, v4, v5, v6, v7, v8]) : w.frozen? ⟨b, 0, none⟩ = false ∧ w.frozen? ⟨b, 1, none⟩ = false ∧ w.frozen? ⟨b, 2, none⟩ = false ∧ w.frozen? ⟨b, 3, none⟩ = false ∧ w.frozen? ⟨b, 4, none⟩ = false ∧ w.frozen? ⟨b, 5, none⟩ = false ∧ w.frozen? ⟨b, 6, none⟩ = false ∧ w.frozen? ⟨b, 7, none⟩ = false ∧ w.frozen? ⟨b, 8, none⟩ = false := ⟨(h 0 _ rfl).free, (h 1 _ rfl).free, (h 2 _ rfl).free, (h 3 _ rfl).free, (h 4 _ rfl).free, (h 5 _ rfl).free, (h 6 _ rfl).free, (h 7 _ rfl).free, (h 8 _ rfl).free⟩
theorem free12_of {w : World} {b : Nat} {v0 v1 v2 v3 v4 v5 v6 v7 v8 v9 v10 v11 : Value} (h : Blk w b #[v0, v1, v2, v3, v4, v5, v6, v7, v8, v9, v10, v11]) : w.frozen? ⟨b, 0, none⟩ = false ∧ w.frozen? ⟨b, 1, none⟩ = false ∧ w.frozen? ⟨b, 2, none⟩ = false ∧ w.frozen? ⟨b, 3, none⟩ = false ∧ w.frozen? ⟨b, 4, none⟩ = false ∧ w.frozen? ⟨b, 5, none⟩ = false ∧ w.frozen? ⟨b, 6, none⟩ = false ∧ w.frozen? ⟨b, 7, none⟩ = false ∧ w.frozen? ⟨b, 8, none⟩ = false ∧ w.frozen? ⟨b, 9, none⟩ = false ∧ w.frozen? ⟨b, 10, none⟩ = false ∧ w.frozen? ⟨b, 11, none⟩ = false := ⟨(h 0 _ rfl).free, (h 1 _ rfl).free, (h 2 _ rfl).free, (h 3 _ rfl).free, (h 4 _ rfl).free, (h 5 _ rfl).free, (h 6 _ rfl).free, (h 7 _ rfl).free, (h 8 _ rfl).free, (h 9 _ rfl).free, (h 10 _ rfl).free, (h 11 _ rfl).free⟩
end Go.Proofs.YtoehobaigfmnpaaGreatDoor
