/- Blocks of cells that may be written. -/
import Derived.ProofKit
import Derived.OpenShut
import Derived.ChangeOld
import Derived.Deep.Matrix
import Derived.DataShut
import Derived.SizedLaws
import Derived.Test.YtoehobaigfmnpaaDoorMr1
import Derived.Test.YtoehobaigfmnpaaDoorMr5
import Derived.Test.YtoehobaigfmnpaaDoorMr10
section
namespace Go.Proofs.YtoehobaigfmnpaaDoor
set_option linter.unusedSimpArgs false
set_option linter.unusedVariables false
set_option maxRecDepth 100000
open Go.RowKit
set_option maxHeartbeats 1000000 in
theorem sign_yes (s o : Nat) (A : Option Addr) (c n : Nat) (l : List Int) (hln : l.length = n) (w : World) (hs : wthB s 1 = true) (ho : wthB o 1 = true) (hl : IntsAt w A .i64 l) (hn : n ≤ 100000) (hf : Fit l) (ht : Tab w) :
    Calls Tryd.prog 34 #[.int .i64 s, .int .i64 o, .slice A n c] w fun e w' => e = .returned (.tuple #[.agg #[.int .i64 (sigE s o l : Nat), .int .i64 (sigS s o l : Nat)], .int .i64 0]) ∧ Below w.heap.size w w' := by
  have hq : QQ = 1073741789 := rfl
  have h1 := wthB_iff.1 hs
  have h2 := wthB_iff.1 ho
  have q1 := fun W => within_any s 1 W
  have q2 := fun W => within_any o 1 W
  rw [hs] at q1
  rw [ho] at q2
  have q3 := fun W (h1 : IntsAt W A .i64 l) h2 => signature_any s o A c n l hln W (by omega) (by omega) h1 hn hf h2
  generalize sigE s o l = E at *
  generalize sigS s o l = S at *
  have bw : Below w.heap.size w (w.alloc (.cells #[.int .i64 0, .int .i64 0] 29)) := (Below.refl _ _).alloc (Nat.le_refl _) _
  have q4 := q3 _ (hl.below bw) (ht.below bw)
  have H_q1 := Lib.hid q1; clear q1; have H_q2 := Lib.hid q2; clear q2; have H_q3 := Lib.hid q3; clear q3; have H_q4 := Lib.hid q4; clear q4; have H_hl := Lib.hid hl; clear hl; have H_ht := Lib.hid ht; clear ht; have H_hf := Lib.hid hf; clear hf; have H_hln := Lib.hid hln; clear hln; have H_hs := Lib.hid hs; clear hs; have H_ho := Lib.hid ho; clear ho; have H_hq := Lib.hid hq; clear hq; have H_h1 := Lib.hid h1; clear h1; have H_h2 := Lib.hid h2; clear h2; have H_bw := Lib.hid bw; clear bw
  go_enter Tryd.func34, Tryd.ntmps34
  go_wp2_with fail
  refine (H_q1.out _).mono ?_
  rintro e w_ ⟨rfl, rfl⟩
  go_wp2_with fail
  refine (H_q2.out _).mono ?_
  rintro e w_ ⟨rfl, rfl⟩
  go_wp2_with fail
  refine (H_q4.out).mono ?_; rintro e w3 ⟨rfl, hbw3⟩
  have hsw3 := hbw3.size; (try simp only [World.size_alloc, World.heap_drewN, World.size_setCell, heap_drew] at hsw3)
  have gw3 : Below w.heap.size w w3 := belt
  have kw3x0x0 := keepc hbw3 (b := w.heap.size) (o := 0) omg (by go_simp; with_reducible rfl)
  have fw3x0x0 := keepf hbw3 (b := w.heap.size) (o := 0) omg (by go_simp)
  have kw3x0x1 := keepc hbw3 (b := w.heap.size) (o := 1) omg (by go_simp; with_reducible rfl)
  have fw3x0x1 := keepf hbw3 (b := w.heap.size) (o := 1) omg (by go_simp)
  have zw3x0 : w.heap.size < w3.heap.size := by omega
  have H_hbw3 := Lib.hid hbw3; clear hbw3
  go_wp2_with fail
  have c0 := set_same kw3x0x0 (.int .i64 E)
  have c1 := set_same (set_other kw3x0x1 (o' := 0) (by omega) (.int .i64 E)) (.int .i64 S)
  refine bodyPost_ret (v := .tuple #[.agg #[.int .i64 E, .int .i64 S], .int .i64 0]) (by simp [results, Tryd.results34, go_sem, c0, c1]) rfl ?_
  exact ⟨rfl, belt⟩

set_option maxHeartbeats 1000000 in
theorem sign_no (s o : Int) (A : Option Addr) (c n : Nat) (w : World) (h : (wthB s 1 && wthB o 1) = false) :
    Calls Tryd.prog 34 #[.int .i64 s, .int .i64 o, .slice A n c] w fun e w' => e = .returned (.tuple #[.agg #[.int .i64 0, .int .i64 0], .int .i64 1]) ∧ Below w.heap.size w w' := by
  have q1 := fun W => within_any s 1 W
  have q2 := fun W => within_any o 1 W
  cases hs : wthB s 1 with
  | false =>
    rw [hs] at q1
    have H_q1 := Lib.hid q1; clear q1; have H_q2 := Lib.hid q2; clear q2; have H_hs := Lib.hid hs; clear hs; have H_h := Lib.hid h; clear h
    go_enter Tryd.func34, Tryd.ntmps34
    go_wp2_with fail
    refine (H_q1.out _).mono ?_
    rintro e w_ ⟨rfl, rfl⟩
    go_wp2_with fail
    refine bodyPost_ret (by simp [results, Tryd.results34, go_sem]; rfl) rfl ?_
    exact ⟨rfl, belt⟩
  | true =>
    rw [hs] at q1
    have ho : wthB o 1 = false := by rw [hs] at h; simpa using h
    rw [ho] at q2
    have H_q1 := Lib.hid q1; clear q1; have H_q2 := Lib.hid q2; clear q2; have H_hs := Lib.hid hs; clear hs; have H_h := Lib.hid h; clear h; have H_ho := Lib.hid ho; clear ho
    go_enter Tryd.func34, Tryd.ntmps34
    go_wp2_with fail
    refine (H_q1.out _).mono ?_
    rintro e w_ ⟨rfl, rfl⟩
    go_wp2_with fail
    refine (H_q2.out _).mono ?_
    rintro e w_ ⟨rfl, rfl⟩
    go_wp2_with fail
    refine bodyPost_ret (by simp [results, Tryd.results34, go_sem]; rfl) rfl ?_
    exact ⟨rfl, belt⟩

/-- G ^ S * public ^ (Q - E) -/
def backN (p e s : Nat) : Nat := pw 4 s PP * pw p ((QQ - e) % QQ) PP % PP
theorem backN_lt (p e s : Nat) : backN p e s < PP := Nat.mod_lt _ (by decide)
/-- a signature is right -/
def rightB (p e s : Nat) (l : List Int) : Bool := e == chN ((backN p e s : Nat) :: (p : Int) :: l)
/-- the numbers of a signature and the key may be -/
def okB (p e s : Int) : Bool := memZ p && wthB e 0 && wthB s 0

theorem verify_no (p e s : Int) (A : Option Addr) (c n : Nat) (w : World) (h : okB p e s = false) :
    Calls Tryd.prog 43 #[.int .i64 p, .agg #[.int .i64 e, .int .i64 s], .slice A n c] w fun x w' => x = .returned (.tuple #[.bool false, .int .i64 1]) ∧ Below w.heap.size w w' := by
  have q1 := fun W => member_any p W
  have q2 := fun W => within_any e 0 W
  have q3 := fun W => within_any s 0 W
  cases hp : memZ p with
  | false =>
    rw [hp] at q1
    have H_q1 := Lib.hid q1; clear q1; have H_q2 := Lib.hid q2; clear q2; have H_q3 := Lib.hid q3; clear q3; have H_hp := Lib.hid hp; clear hp; have H_h := Lib.hid h; clear h
    go_enter Tryd.func43, Tryd.ntmps43
    go_wp2_with fail
    refine (H_q1.out _).mono ?_; rintro e w1 ⟨rfl, hbw1⟩
    have hsw1 := hbw1.size; (try simp only [World.size_alloc, World.heap_drewN, World.size_setCell, heap_drew] at hsw1)
    have gw1 : Below w.heap.size w w1 := belt
    have kw1x0x0 := keepc hbw1 (b := w.heap.size) (o := 0) omg (by go_simp; with_reducible rfl)
    have kw1x0x1 := keepc hbw1 (b := w.heap.size) (o := 1) omg (by go_simp; with_reducible rfl)
    have zw1x0 : w.heap.size < w1.heap.size := by omega
    have H_hbw1 := Lib.hid hbw1; clear hbw1
    go_wp2_with fail
    go_ret2
    exact ⟨rfl, gw1⟩
  | true =>
    rw [hp] at q1
    cases he : wthB e 0 with
    | false =>
      rw [he] at q2
      have H_q1 := Lib.hid q1; clear q1; have H_q2 := Lib.hid q2; clear q2; have H_q3 := Lib.hid q3; clear q3; have H_hp := Lib.hid hp; clear hp; have H_h := Lib.hid h; clear h; have H_he := Lib.hid he; clear he
      go_enter Tryd.func43, Tryd.ntmps43
      go_wp2_with fail
      refine (H_q1.out _).mono ?_; rintro e w1 ⟨rfl, hbw1⟩
      have hsw1 := hbw1.size; (try simp only [World.size_alloc, World.heap_drewN, World.size_setCell, heap_drew] at hsw1)
      have gw1 : Below w.heap.size w w1 := belt
      have kw1x0x0 := keepc hbw1 (b := w.heap.size) (o := 0) omg (by go_simp; with_reducible rfl)
      have kw1x0x1 := keepc hbw1 (b := w.heap.size) (o := 1) omg (by go_simp; with_reducible rfl)
      have zw1x0 : w.heap.size < w1.heap.size := by omega
      have H_hbw1 := Lib.hid hbw1; clear hbw1
      go_wp2_with fail
      refine (H_q2.out _).mono ?_
      rintro e w_ ⟨rfl, rfl⟩
      go_wp2_with fail
      go_ret2
      exact ⟨rfl, gw1⟩
    | true =>
      have hs : wthB s 0 = false := by simpa [okB, hp, he] using h
      rw [he] at q2
      rw [hs] at q3
      have H_q1 := Lib.hid q1; clear q1; have H_q2 := Lib.hid q2; clear q2; have H_q3 := Lib.hid q3; clear q3; have H_hp := Lib.hid hp; clear hp; have H_h := Lib.hid h; clear h; have H_he := Lib.hid he; clear he; have H_hs := Lib.hid hs; clear hs
      go_enter Tryd.func43, Tryd.ntmps43
      go_wp2_with fail
      refine (H_q1.out _).mono ?_; rintro e w1 ⟨rfl, hbw1⟩
      have hsw1 := hbw1.size; (try simp only [World.size_alloc, World.heap_drewN, World.size_setCell, heap_drew] at hsw1)
      have gw1 : Below w.heap.size w w1 := belt
      have kw1x0x0 := keepc hbw1 (b := w.heap.size) (o := 0) omg (by go_simp; with_reducible rfl)
      have kw1x0x1 := keepc hbw1 (b := w.heap.size) (o := 1) omg (by go_simp; with_reducible rfl)
      have zw1x0 : w.heap.size < w1.heap.size := by omega
      have H_hbw1 := Lib.hid hbw1; clear hbw1
      go_wp2_with fail
      refine (H_q2.out _).mono ?_
      rintro e w_ ⟨rfl, rfl⟩
      go_wp2_with fail
      refine (H_q3.out _).mono ?_
      rintro e w_ ⟨rfl, rfl⟩
      go_wp2_with fail
      go_ret2
      exact ⟨rfl, gw1⟩

theorem exp_eq (e : Nat) (he : e < QQ) : (1073741789 - (e : Int)) % 1073741789 = (((QQ - e) % QQ : Nat) : Int) := by
  simp only [QQ] at *
  omega
theorem held_end {w w1 W : World} (g : Below w.heap.size w w1) (h : (∀ b o, b < w1.heap.size → W.cell? ⟨b, o, none⟩ = w1.cell? ⟨b, o, none⟩) ∧ Below w1.heap.size w1 W) : Below w.heap.size w W := g.trans (h.2.mono g.size)
set_option maxHeartbeats 2000000 in
theorem verify_yes (p e s : Nat) (A : Option Addr) (c n : Nat) (l : List Int) (hln : l.length = n) (w : World) (hp : memZ p = true) (he : wthB e 0 = true) (hs : wthB s 0 = true) (hl : IntsAt w A .i64 l) (hn : n ≤ 100000) (hf : Fit l) (ht : Tab w) :
    Calls Tryd.prog 43 #[.int .i64 p, .agg #[.int .i64 e, .int .i64 s], .slice A n c] w fun x w' => x = .returned (.tuple #[.bool (rightB p e s l), .int .i64 0]) ∧ Below w.heap.size w w' := by
  have hq : QQ = 1073741789 := rfl
  have hpp : PP = 2147483579 := rfl
  have h1 := memZ_iff.1 hp
  have h2 := wthB_iff.1 he
  have h3 := wthB_iff.1 hs
  have q1 := fun W => member_any p W
  have q2 := fun W => within_any e 0 W
  have q3 := fun W => within_any s 0 W
  rw [hp] at q1
  rw [he] at q2
  rw [hs] at q3
  have ex := exp_eq e (by omega)
  have hK : (QQ - e) % QQ < QQ := Nat.mod_lt _ (by decide)
  have hback : backN p e s = pw 4 s PP * pw p ((QQ - e) % QQ) PP % PP := rfl
  generalize hKK : (QQ - e) % QQ = K at *
  have hb1 := cast_mulmod (pw 4 s PP) (pw p K PP)
  rw [← hback] at hb1
  have hm1 := mul_lt31 (pw_lt (a := 4) (x := s) (m := PP) (by decide)) (pw_lt (a := p) (x := K) (m := PP) (by decide))
  have hm0 : 0 ≤ ((pw 4 s PP : Nat) : Int) * ((pw p K PP : Nat) : Int) := Int.mul_nonneg (by omega) (by omega)
  have hbl := backN_lt p e s
  have q5 := fun W (h1 : IntsAt W A .i64 l) h2 => challenge_any (backN p e s : Nat) (p : Nat) A c n l hln W (by omega) (by omega) h1 hn hf h2
  have hR : rightB p e s l = (e == chN ((backN p e s : Nat) :: (p : Int) :: l)) := rfl
  generalize chN ((backN p e s : Nat) :: (p : Int) :: l) = C at *
  generalize backN p e s = B at *
  have q4a : ∀ W, Calls Tryd.prog 42 #[.int .i64 4, .int .i64 s] W fun e w' => e = .returned (.int .i64 (pw 4 s PP : Nat)) ∧ Below W.heap.size W w' := fun W => power_any 4 s W (by decide) (by omega)
  have q4b := fun W => power_any p K W (by omega) (by omega)
  generalize ((pw 4 s PP : Nat) : Int) = P1 at *
  generalize ((pw p K PP : Nat) : Int) = P2 at *
  have bw : Below w.heap.size w (w.alloc (.cells #[.int .i64 e, .int .i64 s] 29)) := (Below.refl _ _).alloc (Nat.le_refl _) _
  have z1 : IntKind.i64.wrap (1073741789 - (e : Int)) = 1073741789 - (e : Int) := IntWalk.i64_in _ (by omega)
  have z2 : (1073741789 - (e : Int)).tmod 1073741789 = (K : Int) := by rw [Int.tmod_eq_emod_of_nonneg (by omega)]; exact ex
  have z3 : IntKind.i64.wrap (P1 * P2) = P1 * P2 := IntWalk.i64_in _ (by omega)
  have z4 : (P1 * P2).tmod 2147483579 = (B : Int) := by rw [Int.tmod_eq_emod_of_nonneg (by omega)]; exact hb1
  have zc : ((e : Int) == (C : Int)) = (e == C) := by rw [Bool.eq_iff_iff, beq_iff_eq, beq_iff_eq]; omega
  have H_q1 := Lib.hid q1; clear q1; have H_q2 := Lib.hid q2; clear q2; have H_q3 := Lib.hid q3; clear q3; have H_q4a := Lib.hid q4a; clear q4a; have H_q4b := Lib.hid q4b; clear q4b; have H_q5 := Lib.hid q5; clear q5; have H_hl := Lib.hid hl; clear hl; have H_ht := Lib.hid ht; clear ht; have H_hf := Lib.hid hf; clear hf; have H_hln := Lib.hid hln; clear hln; have H_hp := Lib.hid hp; clear hp; have H_he := Lib.hid he; clear he; have H_hs := Lib.hid hs; clear hs; have H_h1 := Lib.hid h1; clear h1; have H_h2 := Lib.hid h2; clear h2; have H_h3 := Lib.hid h3; clear h3; have H_hq := Lib.hid hq; clear hq; have H_hpp := Lib.hid hpp; clear hpp; have H_ex := Lib.hid ex; clear ex; have H_hK := Lib.hid hK; clear hK; have H_hback := Lib.hid hback; clear hback; have H_hKK := Lib.hid hKK; clear hKK; have H_hb1 := Lib.hid hb1; clear hb1; have H_hR := Lib.hid hR; clear hR; have H_hbl := Lib.hid hbl; clear hbl; have H_bw := Lib.hid bw; clear bw; have H_hm1 := Lib.hid hm1; clear hm1; have H_hm0 := Lib.hid hm0; clear hm0; have H_z1 := Lib.hid z1; clear z1; have H_z2 := Lib.hid z2; clear z2; have H_z3 := Lib.hid z3; clear z3; have H_z4 := Lib.hid z4; clear z4; have H_zc := Lib.hid zc; clear zc
  go_enter Tryd.func43, Tryd.ntmps43
  go_wp2_with fail
  refine (H_q1.out _).mono ?_; rintro e w1 ⟨rfl, hbw1⟩
  have hsw1 := hbw1.size; (try simp only [World.size_alloc, World.heap_drewN, World.size_setCell, heap_drew] at hsw1)
  have gw1 : Below w.heap.size w w1 := belt
  have kw1x0x0 := keepc hbw1 (b := w.heap.size) (o := 0) omg (by go_simp; with_reducible rfl)
  have kw1x0x1 := keepc hbw1 (b := w.heap.size) (o := 1) omg (by go_simp; with_reducible rfl)
  have zw1x0 : w.heap.size < w1.heap.size := by omega
  have H_hbw1 := Lib.hid hbw1; clear hbw1
  go_wp2_with fail
  refine (H_q2.out _).mono ?_
  rintro e w_ ⟨rfl, rfl⟩
  go_wp2_with fail
  refine (H_q3.out _).mono ?_
  rintro e w_ ⟨rfl, rfl⟩
  go_wp2_with fail
  have z1 := H_z1.out
  have z2 := H_z2.out
  have z3 := H_z3.out
  have z4 := H_z4.out
  have l1 := H_hl.out.below gw1
  have t1 := H_ht.out.below gw1
  have H_l1 := Lib.hid l1; clear l1; have H_t1 := Lib.hid t1; clear t1
  go_region_held3 (fun W => (∀ b o, b < w1.heap.size → W.cell? ⟨b, o, none⟩ = w1.cell? ⟨b, o, none⟩) ∧ Below w1.heap.size w1 W) (first | (refine ext_mk ?_; exact belt)) (first | (go_at_call 42; ((with_reducible refine (H_q4a.out _).mono ?_); rintro e w2 ⟨rfl, hb2⟩)) | (go_at_call 42; ((with_reducible refine (H_q4b.out _).mono ?_); rintro e w2 ⟨rfl, hb2⟩)))
  all_goals
    clear z1 z2 z3 z4
    go_wp2_with fail
    have zs : ((s : Int) == (s : Int)) = true := by simp
    have zc := H_zc.out
    generalize hec : (e == C) = EC at *
    cases EC with
    | true =>
      have H_hec := Lib.hid hec; clear hec
      go_region_held3 (fun W => (∀ b o, b < w1.heap.size → W.cell? ⟨b, o, none⟩ = w1.cell? ⟨b, o, none⟩) ∧ Below w1.heap.size w1 W) (first | (refine ext_mk ?_; exact belt)) (first | (go_at_call 66; refine (H_q5.out _ ?_ ?_).mono ?_; (focus (exact H_l1.out.below (And.right (by assumption)))); (focus (exact H_t1.out.below (And.right (by assumption)))); rintro e w3 ⟨rfl, hb3⟩))
      all_goals
        go_wp2_with fail
        go_ret2
        rw [H_hR.out]
        exact ⟨rfl, held_end gw1 (by assumption)⟩
    | false =>
      have H_hec := Lib.hid hec; clear hec
      go_region_held3 (fun W => (∀ b o, b < w1.heap.size → W.cell? ⟨b, o, none⟩ = w1.cell? ⟨b, o, none⟩) ∧ Below w1.heap.size w1 W) (first | (refine ext_mk ?_; exact belt)) (first | (go_at_call 66; refine (H_q5.out _ ?_ ?_).mono ?_; (focus (exact H_l1.out.below (And.right (by assumption)))); (focus (exact H_t1.out.below (And.right (by assumption)))); rintro e w3 ⟨rfl, hb3⟩))
      all_goals
        go_wp2_with fail
        go_ret2
        rw [H_hR.out]
        exact ⟨rfl, held_end gw1 (by assumption)⟩
end Go.Proofs.YtoehobaigfmnpaaDoor
end
section
namespace Go.Proofs.YtoehobaigfmnpaaDoor
set_option linter.unusedSimpArgs false
set_option linter.unusedVariables false
set_option maxRecDepth 100000
open Go.RowKit Go.ChangeShapes Go.WideShapes Go.ChangeAt
theorem addr_add {a : Addr} {w : World} {v : Value} {i : Nat} (h : w.cell? (a.add i) = some v) (h0 : a.spot = none) : w.cell? ⟨a.block, a.off + i, none⟩ = some v := by
  rw [← h]
  unfold Addr.add
  split
  · rename_i h1; subst h1; obtain ⟨b, o, s⟩ := a; simp at h0; subst h0; rfl
  · rfl
theorem cell_lt {w : World} {a : Addr} {v : Value} (h : w.cell? a = some v) : a.block < w.heap.size := by
  unfold World.cell? at h
  rcases Nat.lt_or_ge a.block w.heap.size with h1 | h1
  · exact h1
  · rw [Array.getElem?_eq_none h1] at h; cases h
theorem ints_of_cells {w : World} {a : Addr} {k : IntKind} {l : List Int} (h : ∀ i, i < l.length → w.cell? (a.add i) = some (.int k (l.getD i 0))) : IntsAt w (some a) k l := fun i hi => by
  have h0 : w.cell? a = some (.int k (l.getD 0 0)) := h 0 (by omega)
  have hs := World.cell?_spot h0
  exact ⟨a.block, a.off, by obtain ⟨b, o, s⟩ := a; simp at hs; subst hs; rfl, cell_lt h0, addr_add (h i hi) hs⟩

theorem wf_i64 {n : Int} (h : (Lit.int .i64 n).wf = true) : -9223372036854775808 ≤ n ∧ n ≤ 9223372036854775807 := by
  rw [Lit.wf_int_iff] at h; exact h
theorem wf_u64 {n : Int} (h : (Lit.int .u64 n).wf = true) : 0 ≤ n ∧ n ≤ 18446744073709551615 := by
  rw [Lit.wf_int_iff] at h; exact h
end Go.Proofs.YtoehobaigfmnpaaDoor
end
section
namespace Go.Proofs.YtoehobaigfmnpaaDoor
set_option linter.unusedSimpArgs false
set_option linter.unusedVariables false
set_option maxRecDepth 100000
open Go.RowKit
theorem right_law (s o : Nat) (l : List Int) : rightB (pw 4 s PP) (sigE s o l) (sigS s o l) l = true := by
  rw [rightB, backN, sigS, back_right s o _ (sigE_lt s o l), beq_iff_eq]; rfl
theorem pw45 : pw 4 5 PP = 1024 := by decide
end Go.Proofs.YtoehobaigfmnpaaDoor
end
section
namespace Go.Proofs.YtoehobaigfmnpaaDoor
set_option linter.unusedSimpArgs false
set_option linter.unusedVariables false
set_option maxRecDepth 100000
open Go.RowKit
theorem nameC {W w : World} (h : W = w) {b o : Nat} {v : Value} (hc : W.cell? ⟨b, o, none⟩ = some v) : w.cell? ⟨b, o, none⟩ = some v := h ▸ hc
theorem nameF {W w : World} (h : W = w) {b o : Nat} (hc : W.frozen? ⟨b, o, none⟩ = false) : w.frozen? ⟨b, o, none⟩ = false := h ▸ hc
/-- a block of cells that may be written -/
def Blk (w : World) (b : Nat) (vs : Array Value) : Prop := ∀ o v, vs[o]? = some v → Cel w b o v
theorem Blk.below {w w' : World} {b : Nat} {vs : Array Value} (h : Blk w b vs) (hb : Below w.heap.size w w') : Blk w' b vs := fun o v hv => (h o v hv).below hb
theorem blk_new {w : World} {vs : Array Value} {t : TypeId} {n : Nat} (hn : w.heap.size = n) : Blk (w.alloc (.cells vs t)) n vs := fun _ _ h => cel_new hn h
theorem Blk.alloc {w : World} {b : Nat} {vs : Array Value} (h : Blk w b vs) (x : Obj) : Blk (w.alloc x) b vs := fun o v hv => (h o v hv).alloc x
theorem Blk.set {w : World} {b : Nat} {vs : Array Value} (h : Blk w b vs) (o : Nat) (u : Value) (ho : o < vs.size) : Blk (w.setCell ⟨b, o, none⟩ u) b (vs.setIfInBounds o u) := fun i v hi => by
  by_cases e : i = o
  · subst e
    have : v = u := by simpa [Array.getElem?_setIfInBounds, ho] using hi.symm
    subst this
    exact (h i _ (Array.getElem?_eq_getElem ho)).same v
  · have hv : vs[i]? = some v := by simpa [Array.getElem?_setIfInBounds, Ne.symm e] using hi
    exact (h i v hv).near (fun h2 => e h2.symm) u
theorem Blk.far {w : World} {b : Nat} {vs : Array Value} (h : Blk w b vs) {g o : Nat} (hg : g ≠ b) (u : Value) : Blk (w.setCell ⟨g, o, none⟩ u) b vs := fun i v hi => (h i v hi).far hg u

/-- stores into one block, one behind the other -/
def putL (w : World) (b : Nat) : Nat → List Value → World
  | _, [] => w
  | o, v :: r => putL (w.setCell ⟨b, o, none⟩ v) b (o + 1) r
theorem putL_size {b : Nat} : ∀ (vs : List Value) (w : World) (o : Nat), (putL w b o vs).heap.size = w.heap.size
  | [], w, o => rfl
  | v :: r, w, o => by rw [putL, putL_size r]; simp
theorem putL_below {B b : Nat} {w0 : World} (hb : B ≤ b) : ∀ (vs : List Value) (w : World) (o : Nat), Below B w0 w → Below B w0 (putL w b o vs)
  | [], w, o, h => h
  | v :: r, w, o, h => putL_below hb r _ _ (below_set h hb o v)
theorem putL_cfar {b g j : Nat} {u : Value} (hne : b ≠ g) : ∀ (vs : List Value) (w : World) (o : Nat), Cel w g j u → Cel (putL w b o vs) g j u
  | [], w, o, h => h
  | v :: r, w, o, h => putL_cfar hne r _ _ (h.far hne v)
theorem putL_far {b g : Nat} {us : Array Value} {w : World} (h : Blk w g us) (hne : b ≠ g) (o : Nat) (vs : List Value) : Blk (putL w b o vs) g us := fun i v hi => putL_cfar hne vs w o (h i v hi)
theorem putL_near {b j : Nat} {u : Value} : ∀ (vs : List Value) (w : World) (o : Nat), j < o → Cel w b j u → Cel (putL w b o vs) b j u
  | [], w, o, _, h => h
  | v :: r, w, o, hj, h => putL_near r _ _ (by omega) (h.near (by omega) v)
theorem putL_cel {b : Nat} : ∀ (vs : List Value) (w : World) (o : Nat), (∀ i, i < vs.length → ∃ u, Cel w b (o + i) u) → ∀ i v, vs[i]? = some v → Cel (putL w b o vs) b (o + i) v
  | [], w, o, _, i, v, h => by simp at h
  | x :: r, w, o, hc, i, v, h => by
    obtain ⟨u0, h0⟩ := hc 0 (by simp)
    rw [Nat.add_zero] at h0
    cases i with
    | zero =>
      have e : x = v := by simpa using h
      subst e
      exact putL_near r _ _ (by omega) (h0.same x)
    | succ i =>
      have := putL_cel r (w.setCell ⟨b, o, none⟩ x) (o + 1) (fun i hi => by
        obtain ⟨u, hu⟩ := hc (i + 1) (by simpa using hi)
        exact ⟨u, by rw [show o + 1 + i = o + (i + 1) by omega]; exact hu.near (by omega) x⟩) i v (by simpa using h)
      rw [putL, show o + (i + 1) = o + 1 + i by omega]; exact this
/-- a block written whole -/
theorem putL_blk {w : World} {b : Nat} {us : Array Value} (h : Blk w b us) (vs : List Value) (hs : vs.length ≤ us.size) : Blk (putL w b 0 vs) b vs.toArray := fun i v hi => by
  have := putL_cel vs w 0 (fun i hi => ⟨us[i]'(by omega), by rw [Nat.zero_add]; exact h i _ (Array.getElem?_eq_getElem (by omega))⟩) i v (by simpa using hi)
  rw [Nat.zero_add] at this; exact this
theorem putL_ints {b : Nat} {k : IntKind} {A : Option Addr} {l : List Int} (hne : ∀ b' off, l ≠ [] → A = some ⟨b', off, none⟩ → b' ≠ b) : ∀ (vs : List Value) (w : World) (o : Nat), IntsAt w A k l → IntsAt (putL w b o vs) A k l
  | [], w, o, h => h
  | v :: r, w, o, h => putL_ints hne r _ _ fun i hi => by
    obtain ⟨b', off, e, h1, h2⟩ := h i hi
    have hn := hne b' off (fun e => by rw [e] at hi; simp at hi) e
    refine ⟨b', off, e, by simpa using h1, ?_⟩
    rw [World.cell?_setCell_other w ⟨b, o, none⟩ ⟨b', off + i, none⟩ v (fun e => by injection e with e1 _; exact hn e1.symm)]; exact h2
end Go.Proofs.YtoehobaigfmnpaaDoor
end
