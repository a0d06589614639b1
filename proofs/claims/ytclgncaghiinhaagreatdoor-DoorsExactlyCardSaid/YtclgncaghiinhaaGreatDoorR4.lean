/- DoorsExactly: plain words, and the list of its showings. -/
import Derived.Deep.CutRange
import Derived.WalkKit
import Derived.WalkSpells
import Derived.WalkLawsBesides
import Derived.Deep.QuietTactic
import Derived.BigQuiet
import Derived.Lib.Hide
import Derived.Below
import Derived.IntWalk
import Derived.Laws.Rows
import Derived.Outline
import Derived.Deep.RegionHeld3
import Derived.Deep.RegionWith
import Derived.StillTailTactics
import Derived.Deep.Cut
import Derived.ProofKit
import Derived.OpenShut
import Derived.ChangeOld
import Derived.Deep.Matrix
import Derived.DataShut
import Derived.SizedLaws
import Derived.Lib.SmallJoins
import Derived.Deep.Slices
import Derived.Maps.OwnSet
import Derived.Maps.OwnOps
import Derived.Shelf.Spec.SlicesInsert
import Derived.Shelf.Spec.SlicesInsertGrow
import Derived.BigGuardPart
import Derived.RangeFuncNested
import Derived.RangeFuncWrites
import Derived.OwnWalkIn
import Derived.Deep.RegionHeld
import Derived.RangeFuncBound
import Derived.RangeFuncCalls
import Derived.RangeFuncLeaves
import Derived.Shelf.Abstract
import Derived.Shelf.RegionOpen
import Derived.TacticsInMore
import Derived.LoopNIn
import Derived.LoopIn
import Derived.BigGuardPartIn
import Derived.OwnWalk
import Derived.Test.YtclgncaghiinhaaGreatDoorM1
import Derived.Test.YtclgncaghiinhaaGreatDoorM2
import Derived.Test.YtclgncaghiinhaaGreatDoorM3
import Derived.Test.YtclgncaghiinhaaGreatDoorM4
import Derived.Test.YtclgncaghiinhaaGreatDoorM5
import Derived.Test.YtclgncaghiinhaaGreatDoorM6
import Derived.Test.YtclgncaghiinhaaGreatDoorM7
import Derived.Test.YtclgncaghiinhaaGreatDoorM8
import Derived.Test.YtclgncaghiinhaaGreatDoorM9
import Derived.Test.YtclgncaghiinhaaGreatDoorM10
import Derived.Test.YtclgncaghiinhaaGreatDoorM11
import Derived.Test.YtclgncaghiinhaaGreatDoorM12
import Derived.Test.YtclgncaghiinhaaGreatDoorM13
import Derived.Test.YtclgncaghiinhaaGreatDoorM14
import Derived.Test.YtclgncaghiinhaaGreatDoorM15
import Derived.Test.YtclgncaghiinhaaGreatDoorM16
import Derived.Test.YtclgncaghiinhaaGreatDoorM17
import Derived.Test.YtclgncaghiinhaaGreatDoorM18
import Derived.Test.YtclgncaghiinhaaGreatDoorM19
import Derived.Test.YtclgncaghiinhaaGreatDoorM20
import Derived.Test.YtclgncaghiinhaaGreatDoorM21
import Derived.Test.YtclgncaghiinhaaGreatDoorM22
import Derived.Test.YtclgncaghiinhaaGreatDoorM23
import Derived.Test.YtclgncaghiinhaaGreatDoorM24
import Derived.Test.YtclgncaghiinhaaGreatDoorM25
import Derived.Test.YtclgncaghiinhaaGreatDoorM26
import Derived.Test.YtclgncaghiinhaaGreatDoorM27
import Derived.Test.YtclgncaghiinhaaGreatDoorM28
import Derived.Test.YtclgncaghiinhaaGreatDoorM29
import Derived.Test.YtclgncaghiinhaaGreatDoorM30
import Derived.Test.YtclgncaghiinhaaGreatDoorM31
import Derived.Test.YtclgncaghiinhaaGreatDoorM32
import Derived.Test.YtclgncaghiinhaaGreatDoorM33
import Derived.Test.YtclgncaghiinhaaGreatDoorM34
import Derived.Test.YtclgncaghiinhaaGreatDoorM35
import Derived.Test.YtclgncaghiinhaaGreatDoorM36
import Derived.Test.YtclgncaghiinhaaGreatDoorM37
import Derived.Test.YtclgncaghiinhaaGreatDoorM38
import Derived.Test.YtclgncaghiinhaaGreatDoorM39
import Derived.Test.YtclgncaghiinhaaGreatDoorM40
import Derived.Test.YtclgncaghiinhaaGreatDoorM41
import Derived.Test.YtclgncaghiinhaaGreatDoorM42
import Derived.Test.YtclgncaghiinhaaGreatDoorM43
import Derived.Test.YtclgncaghiinhaaGreatDoorM44
import Derived.Test.YtclgncaghiinhaaGreatDoorM45
import Derived.Test.YtclgncaghiinhaaGreatDoorM46
import Derived.Test.YtclgncaghiinhaaGreatDoorR1
import Derived.Test.YtclgncaghiinhaaGreatDoorR2
import Derived.Test.YtclgncaghiinhaaGreatDoorR3
set_option linter.unusedSimpArgs false
set_option linter.unusedVariables false
set_option maxRecDepth 100000
namespace Go.Proofs.YtclgncaghiinhaaGreatDoor
open Go.RowKit
section
open Go.RowKit Go.Maps
/-- append for cards, at the operation -/
theorem wp_app_c {ops : Array Oper} {rest : List Oper} {o : Oper} {a : Act} {Q : Exit → Act → World → Prop} (w : World) (hgd : o.guard = none) (s x : Operand)
    (ho : o.op = .call { callee := .builtin .append, args := #[s, x], argTypes := #[23, 23] }) (base : Nat) (A : Option Addr) (c n : Nat) (p : List Crd) (hp : p.length = n) (hs : a.eval s = .slice A n c) (hown : OwnC w base A c p)
    (B : Option Addr) (cc m : Nat) (q : List Crd) (hq : q.length = m) (hx : a.eval x = .slice B m cc) (hr : Cards w B q) (k : Nat) (hk : n + m = k) (h63 : k ≤ 100000) (hbase : base ≤ w.heap.size)
    (h : ∀ A' c' w', OwnC w' base A' c' (p ++ q) → w.grownBy w' (blockOf A) → wpList Tryz.prog ops Q rest (a.put o.dst (.slice A' k c')) w') : wpList Tryz.prog ops Q (o :: rest) a w := by
  obtain ⟨i0, hi, hz0, hz1, hz2⟩ := info_parts infoCard
  refine wp_app_gen (At := CdAt) w hgd s x _ ho i0 _ 72 Tryz.underlying23 hi hz0 hz1 hz2 rfl (by decide) Crd.cells_len Crd.cells_one (fun _ _ h => h.1) n hp hs hown B cc m q hq hx hr (by unfold maxLen; omega) (by omega) hbase fun A' c' w' h1 h2 _ => ?_
  rw [hk]; exact h A' c' w' h1 h2
end
def exB (cs : List Crd) (door key : Int) : List Crd → List Shw → List Crd
  | bs, [] => bs
  | bs, s :: r => exB cs door key (nxtB door key bs (cdD cs s.j) s) r
theorem cards_all {cs : List Crd} {w : World} {X : Option Addr} (h : Cards w X cs) {j : Nat} {c : Crd} (hc : cs[j]? = some c) : CFit c := h.fit c (List.mem_of_getElem? hc)
/-- a showing that is right, in numbers -/
theorem good_nat {nl nc : Nat} {s : Sh4} (h : GoodS nl nc s) : ∃ i j : Nat, s.a = i ∧ s.b = j ∧ i < nl ∧ j < nc ∧ s.shw = ⟨i, j, s.c, s.d⟩ := by
  have a0 := h.a0; have a1 := h.a1; have b0 := h.b0; have b1 := h.b1
  exact ⟨s.a.toNat, s.b.toNat, by omega, by omega, by omega, by omega, rfl⟩
set_option maxHeartbeats 2000000 in
theorem rback_any (p e s : Nat) (w : World) (hp : p < PP) (he : e < QQ) (hs : s < QQ) :
    Calls Tryz.prog 98 #[.int .i64 p, .agg #[.int .i64 e, .int .i64 s]] w fun x w' => x = .returned (.int .i64 (backN p e s : Nat)) ∧ Below w.heap.size w w' := by
  have hq : QQ = 1073741789 := rfl
  have hpp : PP = 2147483579 := rfl
  have ex := exp_eq e he
  have hK : (QQ - e) % QQ < QQ := Nat.mod_lt _ (by decide)
  have hback : backN p e s = pw 4 s PP * pw p ((QQ - e) % QQ) PP % PP := rfl
  generalize hKK : (QQ - e) % QQ = K at *
  have hb1 := cast_mulmod (pw 4 s PP) (pw p K PP)
  rw [← hback] at hb1
  have hm1 := mul_lt31 (pw_lt (a := 4) (x := s) (m := PP) (by decide)) (pw_lt (a := p) (x := K) (m := PP) (by decide))
  have hm0 : 0 ≤ ((pw 4 s PP : Nat) : Int) * ((pw p K PP : Nat) : Int) := Int.mul_nonneg (by omega) (by omega)
  generalize backN p e s = B at *
  have q4a : ∀ W, Calls Tryz.prog 76 #[.int .i64 4, .int .i64 s, .int .i64 2147483579] W fun e w' => e = .returned (.int .i64 (pw 4 s PP : Nat)) ∧ W = w' := fun W => rpowP 4 s W (by decide) (by omega)
  have q4b := fun W => rpowP p K W hp (by omega)
  generalize ((pw 4 s PP : Nat) : Int) = P1 at *
  generalize ((pw p K PP : Nat) : Int) = P2 at *
  have z1 : IntKind.i64.wrap (1073741789 - (e : Int)) = 1073741789 - (e : Int) := IntWalk.i64_in _ (by omega)
  have z2 : (1073741789 - (e : Int)).tmod 1073741789 = (K : Int) := by rw [Int.tmod_eq_emod_of_nonneg (by omega)]; exact ex
  have z3 : IntKind.i64.wrap (P1 * P2) = P1 * P2 := IntWalk.i64_in _ (by omega)
  have z4 : (P1 * P2).tmod 2147483579 = (B : Int) := by rw [Int.tmod_eq_emod_of_nonneg (by omega)]; exact hb1
  have bw : Below w.heap.size w (w.alloc (.cells #[.int .i64 e, .int .i64 s] 26)) := (Below.refl _ _).alloc (Nat.le_refl _) _
  have k0 : (w.alloc (.cells #[.int .i64 e, .int .i64 s] 26)).cell? ⟨w.heap.size, 0, none⟩ = some (.int .i64 e) := by rw [cell_of_row _ _ _ _ _ _ (heap_alloc_new w _)]; rfl
  have k1 : (w.alloc (.cells #[.int .i64 e, .int .i64 s] 26)).cell? ⟨w.heap.size, 1, none⟩ = some (.int .i64 s) := by rw [cell_of_row _ _ _ _ _ _ (heap_alloc_new w _)]; rfl
  have sz : w.heap.size < (w.alloc (.cells #[.int .i64 e, .int .i64 s] 26)).heap.size := by simp
  have ⟨H_q4a, H_q4b, H_hp, H_he, H_hs, H_hq, H_hpp, H_ex⟩ := hid8 q4a q4b hp he hs hq hpp ex; clear q4a q4b hp he hs hq hpp ex; have ⟨H_hK, H_hback, H_hKK, H_hb1, H_bw, H_hm1, H_hm0, H_z1⟩ := hid8 hK hback hKK hb1 bw hm1 hm0 z1; clear hK hback hKK hb1 bw hm1 hm0 z1; have ⟨H_z2, H_z3, H_z4, H_k0, H_k1, H_sz⟩ := hid6 z2 z3 z4 k0 k1 sz; clear z2 z3 z4 k0 k1 sz
  go_enter Tryz.func98, Tryz.ntmps98
  go_wp2_with fail
  obtain ⟨w1, hw1⟩ : ∃ w1, w.alloc (.cells #[.int .i64 e, .int .i64 s] 26) = w1 := ⟨_, rfl⟩
  rw [hw1]
  have gw1 := H_bw.out
  have k0 := H_k0.out
  have k1 := H_k1.out
  have sz := H_sz.out
  rw [hw1] at gw1 k0 k1 sz
  have z1 := H_z1.out
  have z2 := H_z2.out
  have z3 := H_z3.out
  have z4 := H_z4.out
  have H_hw1 := Lib.hid hw1; clear hw1
  clear H_k0 H_k1 H_sz H_bw
  go_region_held3 (fun W => (∀ b o, b < w1.heap.size → W.cell? ⟨b, o, none⟩ = w1.cell? ⟨b, o, none⟩) ∧ Below w1.heap.size w1 W) (first | (refine ext_mk ?_; exact belt)) (first | (go_at_call 76; ((with_reducible refine (H_q4a.out _).mono ?_); rintro e w2 ⟨rfl, rfl⟩)) | (go_at_call 76; ((with_reducible refine (H_q4b.out _).mono ?_); rintro e w2 ⟨rfl, rfl⟩)))
  all_goals
    clear z1 z2 z3 z4
    go_wp2_with fail
    go_ret
    exact ⟨rfl, held_end gw1 (by assumption)⟩
theorem rverify_no (p e s : Int) (A : Option Addr) (c n : Nat) (w : World) (h : okB p e s = false) :
    Calls Tryz.prog 77 #[.int .i64 p, .agg #[.int .i64 e, .int .i64 s], .slice A n c] w fun x w' => x = .returned (.tuple #[.bool false, .int .i64 1]) ∧ Below w.heap.size w w' := by
  have q1 := fun W => rmember_any p W
  have q2 := fun W => rExponent_any e W
  have q3 := fun W => rExponent_any s W
  unfold okB at h
  generalize memZ p = M at *
  generalize wthB e 0 = N at *
  generalize wthB s 0 = O at *
  have hc : M = false ∨ (M = true ∧ N = false) ∨ (M = true ∧ N = true ∧ O = false) := by cases M <;> cases N <;> simp_all
  rcases hc with rfl | ⟨rfl, rfl⟩ | ⟨rfl, rfl, rfl⟩
  all_goals
    have ⟨H_q1, H_q2, H_q3, H_h⟩ := hid4 q1 q2 q3 h; clear q1 q2 q3 h
    go_enter Tryz.func77, Tryz.ntmps77
    go_wp2_with fail
    refine (H_q1.out _).mono ?_
    rintro e w_ ⟨rfl, rfl⟩
    go_wp2_with fail
    refine (H_q2.out _).mono ?_
    rintro e w_ ⟨rfl, rfl⟩
    go_wp2_with fail
    refine (H_q3.out _).mono ?_
    rintro e w_ ⟨rfl, rfl⟩
    go_wp2_with fail
    go_ret2
    exact ⟨rfl, belt⟩
set_option maxHeartbeats 2000000 in
theorem rverify_yes (p e s : Nat) (A : Option Addr) (c n : Nat) (l : List Int) (hln : l.length = n) (w : World) (hp : memZ p = true) (he : wthB e 0 = true) (hs : wthB s 0 = true) (hl : IntsAt w A .i64 l) (hn : n ≤ 1000) (hf : Fit l) :
    Calls Tryz.prog 77 #[.int .i64 p, .agg #[.int .i64 e, .int .i64 s], .slice A n c] w fun x w' => x = .returned (.tuple #[.bool (rightB p e s l), .int .i64 0]) ∧ Below w.heap.size w w' := by
  have hq : QQ = 1073741789 := rfl
  have hpp : PP = 2147483579 := rfl
  have h1 := memZ_iff.1 hp
  have h2 := wthB_iff.1 he
  have h3 := wthB_iff.1 hs
  have q1 := fun W => rmember_any p W
  have q2 := fun W => rExponent_any e W
  have q3 := fun W => rExponent_any s W
  rw [hp] at q1
  rw [he] at q2
  rw [hs] at q3
  have q4 := fun W => rback_any p e s W (by omega) (by omega) (by omega)
  have hbl := backN_lt p e s
  have q5 := fun W (h : IntsAt W A .i64 l) => rafter_any (backN p e s : Nat) (p : Nat) A c n l hln W h (by omega)
  have q6 := fun W X x (h : IntsAt W X .i64 ((backN p e s : Nat) :: (p : Int) :: l)) => rchal_any X x (2 + n) ((backN p e s : Nat) :: (p : Int) :: l) (by simp [hln]; omega) W h (by omega) (fit_two (by omega) (by omega) hf)
  have hR : rightB p e s l = (e == chN ((backN p e s : Nat) :: (p : Int) :: l)) := rfl
  generalize hCC : chN ((backN p e s : Nat) :: (p : Int) :: l) = C at *
  generalize hLL : ((backN p e s : Nat) : Int) :: (p : Int) :: l = LL at *
  generalize backN p e s = B at *
  have zc : ((C : Int) == (e : Int)) = (e == C) := by rw [nat_beq, Bool.eq_iff_iff, beq_iff_eq, beq_iff_eq]; exact eq_comm
  have bw : Below w.heap.size w (w.alloc (.cells #[.int .i64 e, .int .i64 s] 26)) := (Below.refl _ _).alloc (Nat.le_refl _) _
  have k0 : (w.alloc (.cells #[.int .i64 e, .int .i64 s] 26)).cell? ⟨w.heap.size, 0, none⟩ = some (.int .i64 e) := by rw [cell_of_row _ _ _ _ _ _ (heap_alloc_new w _)]; rfl
  have k1 : (w.alloc (.cells #[.int .i64 e, .int .i64 s] 26)).cell? ⟨w.heap.size, 1, none⟩ = some (.int .i64 s) := by rw [cell_of_row _ _ _ _ _ _ (heap_alloc_new w _)]; rfl
  have sz : w.heap.size < (w.alloc (.cells #[.int .i64 e, .int .i64 s] 26)).heap.size := by simp
  have l1 := hl.below bw
  unfold NewInts at q5
  have ⟨H_q1, H_q2, H_q3, H_q4, H_q5, H_q6, H_hl, H_hf⟩ := hid8 q1 q2 q3 q4 q5 q6 hl hf; clear q1 q2 q3 q4 q5 q6 hl hf; have ⟨H_hln, H_hp, H_he, H_hs, H_h1, H_h2, H_h3, H_hq⟩ := hid8 hln hp he hs h1 h2 h3 hq; clear hln hp he hs h1 h2 h3 hq; have ⟨H_hpp, H_hbl, H_hR, H_hCC, H_hLL, H_bw, H_k0, H_k1⟩ := hid8 hpp hbl hR hCC hLL bw k0 k1; clear hpp hbl hR hCC hLL bw k0 k1; have ⟨H_sz, H_l1, H_zc⟩ := hid3 sz l1 zc; clear sz l1 zc
  go_enter Tryz.func77, Tryz.ntmps77
  go_wp2_with fail
  refine (H_q1.out _).mono ?_
  rintro e w_ ⟨rfl, rfl⟩
  go_wp2_with fail
  refine (H_q2.out _).mono ?_
  rintro e w_ ⟨rfl, rfl⟩
  go_wp2_with fail
  refine (H_q3.out _).mono ?_
  rintro e w_ ⟨rfl, rfl⟩
  go_wp2_with fail
  obtain ⟨w1, hw1⟩ : ∃ w1, w.alloc (.cells #[.int .i64 e, .int .i64 s] 26) = w1 := ⟨_, rfl⟩
  rw [hw1]
  have gw1 := H_bw.out
  have k0 := H_k0.out
  have k1 := H_k1.out
  have sz := H_sz.out
  have l1 := H_l1.out
  rw [hw1] at gw1 k0 k1 sz l1
  have ⟨H_hw1, H_l1⟩ := hid2 hw1 l1; clear hw1 l1
  clear H_k0 H_k1 H_sz H_bw
  go_region_held3 (fun W => (∀ b o, b < w1.heap.size → W.cell? ⟨b, o, none⟩ = w1.cell? ⟨b, o, none⟩) ∧ Below w1.heap.size w1 W) (first | (refine ext_mk ?_; exact belt)) (first | (go_at_call 98; refine (H_q4.out _).mono ?_; rintro e w2 ⟨rfl, hb2⟩) | (go_at_call 97; refine (H_q5.out _ ?_).mono ?_; (focus (exact H_l1.out.below (And.right (by assumption)))); rintro e w2 ⟨X, x, rfl, hX, hb2⟩; have H_hX := Lib.hid hX; clear hX) | (go_at_call 96; refine (H_q6.out _ _ _ ?_).mono ?_; (focus (exact H_hX.out)); rintro e w2 ⟨rfl, hb2⟩))
  all_goals
    go_wp2_with fail
    go_ret2
    rw [H_hR.out, ← H_zc.out]
    exact ⟨rfl, held_end gw1 (by assumption)⟩
def errV (b : Bool) : Int := if b = true then 0 else 1
def verV (p e s : Int) (l : List Int) : Bool := okB p e s && rightB p.toNat e.toNat s.toNat l
theorem nat_of {x lo : Int} (h0 : 0 ≤ lo) (h : wthB x lo = true) : ∃ n : Nat, x = n := ⟨x.toNat, by have := wthB_iff.1 h; omega⟩
theorem nat_mem {a : Int} (h : memZ a = true) : ∃ n : Nat, a = n := ⟨a.toNat, by have := memZ_iff.1 h; omega⟩
theorem verify_all (p e s : Int) (A : Option Addr) (c n : Nat) (l : List Int) (hln : l.length = n) (w : World) (hl : IntsAt w A .i64 l) (hn : n ≤ 1000) (hf : Fit l) (ht : Tab w) :
    Calls Tryz.prog 75 #[.int .i64 p, .agg #[.int .i64 e, .int .i64 s], .slice A n c] w fun x w' => x = .returned (.tuple #[.bool (verV p e s l), .int .i64 (errV (okB p e s))]) ∧ Below w.heap.size w w' := by
  by_cases h : okB p e s = true
  · rw [verV, errV, if_pos h, h, Bool.true_and]
    simp only [okB, Bool.and_eq_true] at h
    obtain ⟨p, rfl⟩ := nat_mem h.1.1
    obtain ⟨e, rfl⟩ := nat_of (by omega) h.1.2
    obtain ⟨s, rfl⟩ := nat_of (by omega) h.2
    exact verify_yes p e s A c n l hln w h.1.1 h.1.2 h.2 hl (by omega) hf ht
  · rw [Bool.not_eq_true] at h
    rw [verV, errV, h, Bool.false_and, if_neg (by simp)]; exact verify_no p e s A c n w h
theorem rverify_all (p e s : Int) (A : Option Addr) (c n : Nat) (l : List Int) (hln : l.length = n) (w : World) (hl : IntsAt w A .i64 l) (hn : n ≤ 1000) (hf : Fit l) :
    Calls Tryz.prog 77 #[.int .i64 p, .agg #[.int .i64 e, .int .i64 s], .slice A n c] w fun x w' => x = .returned (.tuple #[.bool (verV p e s l), .int .i64 (errV (okB p e s))]) ∧ Below w.heap.size w w' := by
  by_cases h : okB p e s = true
  · rw [verV, errV, if_pos h, h, Bool.true_and]
    simp only [okB, Bool.and_eq_true] at h
    obtain ⟨p, rfl⟩ := nat_mem h.1.1
    obtain ⟨e, rfl⟩ := nat_of (by omega) h.1.2
    obtain ⟨s, rfl⟩ := nat_of (by omega) h.2
    exact rverify_yes p e s A c n l hln w h.1.1 h.1.2 h.2 hl hn hf
  · rw [Bool.not_eq_true] at h
    rw [verV, errV, h, Bool.false_and, if_neg (by simp)]; exact rverify_no p e s A c n w h
set_option maxHeartbeats 4000000 in
theorem rccheck_any (c : Crd) (p : Int) (hc : CFit c) (w : World) :
    Calls Tryz.prog 42 #[.agg c.cells.toArray, .int .i64 p] w fun e w' => e = .returned (.tuple #[.bool (chkB c p), .int .i64 (chkE c p)]) ∧ Below w.heap.size w w' := by
  have q1 := fun W => rcvalid_any c hc W
  cases hv : cvB c with
  | false =>
    have e1 : chkB c p = false := by simp [chkB, hv]
    have e2 : chkE c p = 1 := by simp [chkE, hv]
    rw [hv] at q1
    rw [e1, e2]
    unfold Crd.cells at q1 ⊢
    have ⟨H_hc, H_q1, H_hv, H_e1, H_e2⟩ := hid5 hc q1 hv e1 e2; clear hc q1 hv e1 e2
    go_enter Tryz.func42, Tryz.ntmps42
    go_wp2_with fail
    refine (H_q1.out _).mono ?_; rintro e w2 ⟨rfl, hbw2⟩
    have hsw2 := hbw2.size; (try simp only [World.size_alloc, World.heap_drewN, World.size_setCell, heap_drew] at hsw2)
    have gw2 : Below w.heap.size w w2 := belt
    have kw2x0x0 := keepc hbw2 (b := w.heap.size) (o := 0) omg (by go_simp; with_reducible rfl)
    have kw2x0x1 := keepc hbw2 (b := w.heap.size) (o := 1) omg (by go_simp; with_reducible rfl)
    have kw2x0x2 := keepc hbw2 (b := w.heap.size) (o := 2) omg (by go_simp; with_reducible rfl)
    have kw2x0x3 := keepc hbw2 (b := w.heap.size) (o := 3) omg (by go_simp; with_reducible rfl)
    have kw2x0x4 := keepc hbw2 (b := w.heap.size) (o := 4) omg (by go_simp; with_reducible rfl)
    have kw2x0x5 := keepc hbw2 (b := w.heap.size) (o := 5) omg (by go_simp; with_reducible rfl)
    have kw2x0x6 := keepc hbw2 (b := w.heap.size) (o := 6) omg (by go_simp; with_reducible rfl)
    have kw2x0x7 := keepc hbw2 (b := w.heap.size) (o := 7) omg (by go_simp; with_reducible rfl)
    have kw2x0x8 := keepc hbw2 (b := w.heap.size) (o := 8) omg (by go_simp; with_reducible rfl)
    have zw2x0 : w.heap.size < w2.heap.size := by omega
    have H_hbw2 := Lib.hid hbw2; clear hbw2
    go_wp2_with fail
    go_ret2
    exact ⟨rfl, gw2⟩
  | true =>
    rw [hv] at q1
    have q2 := fun W => rmessage_any c W
    unfold NewInts7 at q2
    have hfm := hc.msg
    have hb := (cvB_iff.1 hv).1
    have he : wthB c.e 0 = true := wthB_iff.2 (by obtain ⟨h1, h2, _⟩ := hb; omega)
    have hs : wthB c.s 0 = true := wthB_iff.2 (by obtain ⟨h1, h2, _⟩ := hb; omega)
    have hok : okB p c.e c.s = memZ p := by rw [okB, he, hs, Bool.and_true, Bool.and_true]
    have post : ∀ W X, IntsAt W X .i64 c.msg → Calls Tryz.prog 77 #[.int .i64 p, .agg #[.int .i64 c.e, .int .i64 c.s], .slice X 7 7] W fun e w' => e = .returned (.tuple #[.bool (chkB c p), .int .i64 (chkE c p)]) ∧ Below W.heap.size W w' := fun W X h1 => by
      have h := rverify_all p c.e c.s X 7 7 c.msg rfl W h1 (by omega) hfm
      rw [errV, verV, hok] at h
      rw [chkB, chkE, hv, Bool.true_and]
      exact h
    generalize chkB c p = R at *
    generalize chkE c p = EE at *
    generalize c.msg = M at *
    unfold Crd.cells at q1 q2 ⊢
    have ⟨H_hc, H_q1, H_q2, H_hv, H_hfm, H_hb, H_he, H_hs⟩ := hid8 hc q1 q2 hv hfm hb he hs; clear hc q1 q2 hv hfm hb he hs; have ⟨H_hok, H_post⟩ := hid2 hok post; clear hok post
    go_enter Tryz.func42, Tryz.ntmps42
    go_wp2_with fail
    refine (H_q1.out _).mono ?_; rintro e w2 ⟨rfl, hbw2⟩
    have hsw2 := hbw2.size; (try simp only [World.size_alloc, World.heap_drewN, World.size_setCell, heap_drew] at hsw2)
    have gw2 : Below w.heap.size w w2 := belt
    have kw2x0x0 := keepc hbw2 (b := w.heap.size) (o := 0) omg (by go_simp; with_reducible rfl)
    have kw2x0x1 := keepc hbw2 (b := w.heap.size) (o := 1) omg (by go_simp; with_reducible rfl)
    have kw2x0x2 := keepc hbw2 (b := w.heap.size) (o := 2) omg (by go_simp; with_reducible rfl)
    have kw2x0x3 := keepc hbw2 (b := w.heap.size) (o := 3) omg (by go_simp; with_reducible rfl)
    have kw2x0x4 := keepc hbw2 (b := w.heap.size) (o := 4) omg (by go_simp; with_reducible rfl)
    have kw2x0x5 := keepc hbw2 (b := w.heap.size) (o := 5) omg (by go_simp; with_reducible rfl)
    have kw2x0x6 := keepc hbw2 (b := w.heap.size) (o := 6) omg (by go_simp; with_reducible rfl)
    have kw2x0x7 := keepc hbw2 (b := w.heap.size) (o := 7) omg (by go_simp; with_reducible rfl)
    have kw2x0x8 := keepc hbw2 (b := w.heap.size) (o := 8) omg (by go_simp; with_reducible rfl)
    have zw2x0 : w.heap.size < w2.heap.size := by omega
    have H_hbw2 := Lib.hid hbw2; clear hbw2
    go_wp2_with fail
    go_region_held3 (fun W => (∀ b o, b < w2.heap.size → W.cell? ⟨b, o, none⟩ = w2.cell? ⟨b, o, none⟩) ∧ Below w2.heap.size w2 W) (first | (refine ext_mk ?_; exact belt)) (first | ((go_at_call 78; (with_reducible refine (H_q2.out _).mono ?_); rintro e w3 ⟨b3, rfl, hi3, hlo3, hbw3⟩; have gw3 := Below.trans (And.right (by assumption : _ ∧ Below w2.heap.size w2 _)) (hbw3.mono (Below.size (And.right (by assumption : _ ∧ Below w2.heap.size w2 _)))); have gsw3 := gw3.size; have hcf := bcell hbw3; have hcw3 := hcf.1; have hfw3 := hcf.2; have hsw3 := hbw3.size; (try simp only [World.size_alloc, World.heap_drewN, heap_drew] at hsw3); clear hbw3 hcf; (try have hzw3 : w2.heap.size < w3.heap.size := by omega))) | (go_at_call 77; (with_reducible refine (H_post.out _ _ hi3).mono ?_); rintro e w4 ⟨rfl, hbw4⟩; have gw4 := Below.trans (And.right (by assumption : _ ∧ Below w2.heap.size w2 _)) (hbw4.mono (Below.size (And.right (by assumption : _ ∧ Below w2.heap.size w2 _)))); have gsw4 := gw4.size; have hcf := bcell hbw4; have hcw4 := hcf.1; have hfw4 := hcf.2; have hsw4 := hbw4.size; (try simp only [World.size_alloc, World.heap_drewN, heap_drew] at hsw4); clear hbw4 hcf; (try have hzw4 : w2.heap.size < w4.heap.size := by omega)))
    all_goals
      have gF : Below w2.heap.size w2 _ := And.right (by assumption)
      go_wp2_with fail
      go_ret2
      exact ⟨rfl, gw2.trans (gF.mono gw2.size)⟩
set_option maxHeartbeats 4000000 in
theorem rccards_any (A : Option Addr) (cp n : Nat) (l : List Crd) (hln : l.length = n) (hn : n ≤ 9223372036854775807) (w : World) (hl : Cards w A l) :
    Calls Tryz.prog 15 #[.slice A n cp] w fun e w' => e = .returned (.bool (cdsB l)) ∧ Below w.heap.size w w' := by
  obtain ⟨T, hT⟩ : ∃ T, decide (n ≤ 500) = T := ⟨_, rfl⟩
  have e0 : cdsB l = (T && allV l) := by rw [cdsB, hln, hT]
  rw [e0]
  have i5 : decide ((n : Int) ≤ 500) = T := by rw [← hT]; exact decide_eq_decide.2 (by omega)
  generalize hR : allV l = R
  have h0 : R = allV (l.drop 0) := by rw [List.drop_zero]; exact hR.symm
  have ⟨H_hl, H_hln, H_hR, H_h0, H_e0, H_hT⟩ := hid6 hl hln hR h0 e0 hT; clear hl hln hR h0 e0 hT
  go_enter Tryz.func15, Tryz.ntmps15
  go_wp2_with fail
  go_loopw [3] (fun i wr => ∃ (k : Nat), k ≤ n ∧ i = .int .i64 k ∧ R = allV (l.drop k) ∧ Below w.heap.size w wr) (fun i _ => n - (intOf i).toNat)
  case atStart => exact ⟨0, by omega, rfl, H_h0.out, Below.refl _ _⟩
  case round =>
    obtain ⟨k, hk, rfl, hRk, hb⟩ := hrel
    by_cases hlt : k < n
    · obtain ⟨c, hc⟩ : ∃ c, l[k]? = some c := ⟨_, List.getElem?_eq_getElem (by rw [H_hln.out]; exact hlt)⟩
      obtain ⟨b, off, rfl, hbl, hf, c0, c1, c2, c3, c4, c5, c6, c7, c8⟩ := (H_hl.out.below hb).at hc
      rw [allV_drop hc] at hRk
      have q := rcvalid_any c hf wr
      unfold Crd.cells at q
      generalize cvB c = X at *
      have g1 : (k : Int) < (n : Int) := by omega
      have g0 : (0 : Int) ≤ (k : Int) := by omega
      have ⟨H_q, H_hRk, H_hf, H_hc, H_hb⟩ := hid5 q hRk hf hc hb; clear q hRk hf hc hb
      go_wp2_with fail
      refine H_q.out.mono ?_
      rintro e w2 ⟨rfl, b2⟩
      have bb := H_hb.out.trans (b2.mono H_hb.out.size)
      clear c0 c1 c2 c3 c4 c5 c6 c7 c8
      have ⟨H_b2, H_bb⟩ := hid2 b2 bb; clear b2 bb
      cases X with
      | true =>
        go_wp2_with fail
        go_roundw
        case rel => exact ⟨k + 1, by omega, by go_num, by rw [H_hRk.out, Bool.true_and], H_bb.out⟩
        case measure => simp [intOf]; omega
      | false =>
        go_wp2_with fail
        go_ret
        exact ⟨ret_bool (by rw [H_hRk.out]; simp), H_bb.out⟩
    · have : l.drop k = [] := List.drop_eq_nil_of_le (by rw [H_hln.out]; omega)
      rw [this] at hRk
      have g1 : ¬ (k : Int) < (n : Int) := by omega
      have ⟨H_hRk, H_hb, H_this⟩ := hid3 hRk hb this; clear hRk hb this
      go_wp2_with fail
      go_ret
      exact ⟨ret_bool (by rw [H_hRk.out]; simp [allV]), H_hb.out⟩
theorem rvkD_drop {l : List Crd} {k : Nat} {b : Crd} (h : l[k]? = some b) (i : Int) : rvkD (l.drop k) i = (((b.k == 3) && (b.l == i)) || rvkD (l.drop (k + 1)) i) := by
  obtain ⟨hk, rfl⟩ := List.getElem?_eq_some_iff.1 h
  rw [List.drop_eq_getElem_cons hk, beq_dec, beq_dec]; rfl
theorem newD_drop {l : List Crd} {k : Nat} {b : Crd} (h : l[k]? = some b) (i : Int) : newD (l.drop k) i = (((b.k == 1) && decide (i < b.n)) || newD (l.drop (k + 1)) i) := by
  obtain ⟨hk, rfl⟩ := List.getElem?_eq_some_iff.1 h
  rw [List.drop_eq_getElem_cons hk, beq_dec]; rfl
set_option maxHeartbeats 4000000 in
theorem rrevoked_any (id : Int) (A : Option Addr) (cp n : Nat) (l : List Crd) (hln : l.length = n) (hn : n ≤ 9223372036854775807) (w : World) (hl : Cards w A l) :
    Calls Tryz.prog 43 #[.int .i64 id, .slice A n cp] w fun e w' => e = .returned (.bool (rvkD l id)) ∧ Below w.heap.size w w' := by
  generalize hR : rvkD l id = R
  have h0 : R = rvkD (l.drop 0) id := by rw [List.drop_zero]; exact hR.symm
  have ⟨H_hl, H_hln, H_hR, H_h0⟩ := hid4 hl hln hR h0; clear hl hln hR h0
  go_enter Tryz.func43, Tryz.ntmps43
  go_wp2_with fail
  go_loopw [5] (fun i wr => ∃ (k : Nat), k ≤ n ∧ i = .int .i64 k ∧ R = rvkD (l.drop k) id ∧ Below w.heap.size w wr) (fun i _ => n - (intOf i).toNat)
  case atStart => exact ⟨0, by omega, rfl, H_h0.out, Below.refl _ _⟩
  case round =>
    obtain ⟨k, hk, rfl, hRk, hb⟩ := hrel
    by_cases hlt : k < n
    · obtain ⟨c, hc⟩ : ∃ c, l[k]? = some c := ⟨_, List.getElem?_eq_getElem (by rw [H_hln.out]; exact hlt)⟩
      obtain ⟨b, off, rfl, hbl, hf, c0, c1, c2, c3, c4, c5, c6, c7, c8⟩ := (H_hl.out.below hb).at hc
      rw [rvkD_drop hc] at hRk
      obtain ⟨x1, h1⟩ : ∃ x, (c.k == 3) = x := ⟨_, rfl⟩
      obtain ⟨x2, h2⟩ : ∃ x, (c.l == id) = x := ⟨_, rfl⟩
      rw [h1, h2] at hRk
      have g1 : (k : Int) < (n : Int) := by omega
      have g0 : (0 : Int) ≤ (k : Int) := by omega
      have ⟨H_hRk, H_hf, H_hc, H_hb⟩ := hid4 hRk hf hc hb; clear hRk hf hc hb
      cases x1
      · go_wp2_with fail
        go_roundw
        case rel => exact ⟨k + 1, by omega, by go_num, by rw [H_hRk.out]; simp, H_hb.out⟩
        case measure => simp [intOf]; omega
      · cases x2
        · go_wp2_with fail
          go_roundw
          case rel => exact ⟨k + 1, by omega, by go_num, by rw [H_hRk.out]; simp, H_hb.out⟩
          case measure => simp [intOf]; omega
        · go_wp2_with fail
          go_ret
          exact ⟨ret_bool (by rw [H_hRk.out]; simp), H_hb.out⟩
    · have : l.drop k = [] := List.drop_eq_nil_of_le (by rw [H_hln.out]; omega)
      rw [this] at hRk
      have g1 : ¬ (k : Int) < (n : Int) := by omega
      have ⟨H_hRk, H_hb, H_this⟩ := hid3 hRk hb this; clear hRk hb this
      go_wp2_with fail
      go_ret
      exact ⟨ret_bool (by rw [H_hRk.out]; rfl), H_hb.out⟩
set_option maxHeartbeats 4000000 in
theorem rnewer_any (id : Int) (A : Option Addr) (cp n : Nat) (l : List Crd) (hln : l.length = n) (hn : n ≤ 9223372036854775807) (w : World) (hl : Cards w A l) :
    Calls Tryz.prog 44 #[.int .i64 id, .slice A n cp] w fun e w' => e = .returned (.bool (newD l id)) ∧ Below w.heap.size w w' := by
  generalize hR : newD l id = R
  have h0 : R = newD (l.drop 0) id := by rw [List.drop_zero]; exact hR.symm
  have ⟨H_hl, H_hln, H_hR, H_h0⟩ := hid4 hl hln hR h0; clear hl hln hR h0
  go_enter Tryz.func44, Tryz.ntmps44
  go_wp2_with fail
  go_loopw [5] (fun i wr => ∃ (k : Nat), k ≤ n ∧ i = .int .i64 k ∧ R = newD (l.drop k) id ∧ Below w.heap.size w wr) (fun i _ => n - (intOf i).toNat)
  case atStart => exact ⟨0, by omega, rfl, H_h0.out, Below.refl _ _⟩
  case round =>
    obtain ⟨k, hk, rfl, hRk, hb⟩ := hrel
    by_cases hlt : k < n
    · obtain ⟨c, hc⟩ : ∃ c, l[k]? = some c := ⟨_, List.getElem?_eq_getElem (by rw [H_hln.out]; exact hlt)⟩
      obtain ⟨b, off, rfl, hbl, hf, c0, c1, c2, c3, c4, c5, c6, c7, c8⟩ := (H_hl.out.below hb).at hc
      rw [newD_drop hc] at hRk
      obtain ⟨x1, h1⟩ : ∃ x, (c.k == 1) = x := ⟨_, rfl⟩
      obtain ⟨x2, h2⟩ : ∃ x, decide (id < c.n) = x := ⟨_, rfl⟩
      rw [h1, h2] at hRk
      have g1 : (k : Int) < (n : Int) := by omega
      have g0 : (0 : Int) ≤ (k : Int) := by omega
      have ⟨H_hRk, H_hf, H_hc, H_hb⟩ := hid4 hRk hf hc hb; clear hRk hf hc hb
      cases x1
      · go_wp2_with fail
        go_roundw
        case rel => exact ⟨k + 1, by omega, by go_num, by rw [H_hRk.out]; simp, H_hb.out⟩
        case measure => simp [intOf]; omega
      · cases x2
        · go_wp2_with fail
          go_roundw
          case rel => exact ⟨k + 1, by omega, by go_num, by rw [H_hRk.out]; simp, H_hb.out⟩
          case measure => simp [intOf]; omega
        · go_wp2_with fail
          go_ret
          exact ⟨ret_bool (by rw [H_hRk.out]; simp), H_hb.out⟩
    · have : l.drop k = [] := List.drop_eq_nil_of_le (by rw [H_hln.out]; omega)
      rw [this] at hRk
      have g1 : ¬ (k : Int) < (n : Int) := by omega
      have ⟨H_hRk, H_hb, H_this⟩ := hid3 hRk hb this; clear hRk hb this
      go_wp2_with fail
      go_ret
      exact ⟨ret_bool (by rw [H_hRk.out]; rfl), H_hb.out⟩
theorem mayW_is (bs : List Crd) (c : Crd) (key t : Int) : mayW bs c key t = (!((c.k == 3) || rvkD bs c.i || ((c.k == 1) && newD bs c.n)) && (chkB c key && decide (c.f ≤ t) && decide (t < c.u))) := by
  rw [may_is, mayD, inD, beq_dec, beq_dec]
  generalize decide (c.k = 3) = x1
  generalize rvkD bs c.i = x2
  generalize (decide (c.k = 1) && newD bs c.n) = x3
  generalize decide (c.f ≤ t) = x4
  generalize decide (t < c.u) = x5
  generalize chkB c key = x6
  revert x1 x2 x3 x4 x5 x6
  decide
set_option maxHeartbeats 16000000 in
theorem rmay38_any (c : Crd) (key : Int) (A : Option Addr) (cp n : Nat) (bs : List Crd) (t : Int) (w : World) (hc : CFit c) (hln : bs.length = n) (hn : n ≤ 9223372036854775807) (hl : Cards w A bs) :
    Calls Tryz.prog 14 #[.agg c.cells.toArray, .int .i64 key, .slice A n cp, .int .i64 t] w fun e w' => e = .returned (.tuple #[.bool (mayR bs c key t), .int .i64 (mayE bs c key t)]) ∧ Below w.heap.size w w' := by
  obtain ⟨w0, hw0⟩ : ∃ W, w.alloc (.cells c.cells.toArray 28) = W := ⟨_, rfl⟩
  have bb0 : Below w.heap.size w w0 := by rw [← hw0]; exact (Below.refl _ _).alloc (Nat.le_refl _) _
  have k0 : Blk w0 w.heap.size c.cells.toArray := by rw [← hw0]; exact blk_new rfl
  have q1 := fun W => rcvalid_any c hc W
  have q2 := fun W => (rmember_any key W).mono belowPost
  have q3 := fun W (h : Below w.heap.size w W) => rccards_any A cp n bs hln hn W (hl.below h)
  have q4 := fun W => (rTime_any t W).mono belowPost
  have q5 := fun W => rccheck_any c key hc W
  have q6 := fun W (h : Below w.heap.size w W) => rrevoked_any c.i A cp n bs hln hn W (hl.below h)
  have q7 := fun W (h : Below w.heap.size w W) => rnewer_any c.n A cp n bs hln hn W (hl.below h)
  have e3 : mayV bs c key t = (cvB c && memZ key && cdsB bs && timeB t) := rfl
  have e4 := mayW_is bs c key t
  unfold mayR mayE
  rw [e3, e4]
  generalize cvB c = V1 at *
  generalize memZ key = V2 at *
  generalize cdsB bs = V3 at *
  generalize timeB t = V4 at *
  generalize rvkD bs c.i = V5 at *
  generalize newD bs c.n = V7 at *
  generalize chkB c key = V6 at *
  generalize chkE c key = E6 at *
  obtain ⟨x1, h1⟩ : ∃ x, (c.k == 3) = x := ⟨_, rfl⟩
  obtain ⟨x4, h4⟩ : ∃ x, (c.k == 1) = x := ⟨_, rfl⟩
  obtain ⟨x2, h2⟩ : ∃ x, decide (c.f ≤ t) = x := ⟨_, rfl⟩
  obtain ⟨x3, h3⟩ : ∃ x, decide (t < c.u) = x := ⟨_, rfl⟩
  rw [h1, h2, h3, h4]
  clear e3 e4
  unfold Crd.cells at k0 hw0 q1 q5 ⊢
  have ⟨H_hw0, H_bb0, H_k0, H_q1, H_q2, H_q3, H_q4, H_q5⟩ := hid8 hw0 bb0 k0 q1 q2 q3 q4 q5; clear hw0 bb0 k0 q1 q2 q3 q4 q5; have ⟨H_q6, H_q7, H_hc, H_hln, H_hl⟩ := hid5 q6 q7 hc hln hl; clear q6 q7 hc hln hl
  go_enter Tryz.func14, Tryz.ntmps14
  go_upto_region 1 with (fail)
  rw [H_hw0.out]
  obtain ⟨y0, y1, y2, y3, y4, y5, y6, y7, y8⟩ := at9_of H_k0.out
  have ly := (H_k0.out 0 _ rfl).lt
  go_wp2_with fail
  (with_reducible refine (H_q1.out _).mono ?_)
  rintro e w1 ⟨rfl, b1⟩
  have c1 : Below w0.heap.size w0 w1 := Below.trans belt (b1.mono omh)
  have s1 := c1.size
  have bb1 := H_bb0.out.trans (c1.mono H_bb0.out.size)
  have k1 := H_k0.out.below c1
  have ⟨H_b1, H_c1, H_bb1, H_k1⟩ := hid4 b1 c1 bb1 k1; clear b1 c1 bb1 k1
  go_wp2_with fail
  (with_reducible refine (H_q2.out _).mono ?_)
  rintro e w2 ⟨rfl, b2⟩
  have c2 : Below w1.heap.size w1 w2 := Below.trans belt (b2.mono omh)
  have s2 := c2.size
  have bb2 := H_bb1.out.trans (c2.mono H_bb1.out.size)
  have k2 := H_k1.out.below c2
  have ⟨H_b2, H_c2, H_bb2, H_k2⟩ := hid4 b2 c2 bb2 k2; clear b2 c2 bb2 k2
  go_wp2_with fail
  (with_reducible refine (H_q3.out _ ?_).mono ?_)
  · exact H_bb2.out.trans ((show Below w2.heap.size w2 _ from belt).mono H_bb2.out.size)
  rintro e w3 ⟨rfl, b3⟩
  have c3 : Below w2.heap.size w2 w3 := Below.trans belt (b3.mono omh)
  have s3 := c3.size
  have bb3 := H_bb2.out.trans (c3.mono H_bb2.out.size)
  have k3 := H_k2.out.below c3
  have ⟨H_b3, H_c3, H_bb3, H_k3⟩ := hid4 b3 c3 bb3 k3; clear b3 c3 bb3 k3
  go_wp2_with fail
  (with_reducible refine (H_q4.out _).mono ?_)
  rintro e w4 ⟨rfl, b4⟩
  have c4 : Below w3.heap.size w3 w4 := Below.trans belt (b4.mono omh)
  have s4 := c4.size
  have bb4 := H_bb3.out.trans (c4.mono H_bb3.out.size)
  have k4 := H_k3.out.below c4
  have ⟨H_b4, H_c4, H_bb4, H_k4⟩ := hid4 b4 c4 bb4 k4; clear b4 c4 bb4 k4
  clear ly
  clear y0 y1 y2 y3 y4 y5 y6 y7 y8
  by_cases hV : (V1 && V2 && V3 && V4) = true
  rotate_left
  · have hV2 : (V1 && V2 && V3 && V4) = false := by simpa using hV
    clear hV
    cases V1
    · go_wp2_with fail
      go_ret2
      exact ⟨by simp, H_bb4.out⟩
    · cases V2
      · go_wp2_with fail
        go_ret2
        exact ⟨by simp, H_bb4.out⟩
      · cases V3
        · go_wp2_with fail
          go_ret2
          exact ⟨by simp, H_bb4.out⟩
        · have : V4 = false := by simpa using hV2
          subst this
          go_wp2_with fail
          go_ret2
          exact ⟨by simp, H_bb4.out⟩
  · simp only [Bool.and_eq_true] at hV
    obtain ⟨⟨⟨rfl, rfl⟩, rfl⟩, rfl⟩ := hV
    obtain ⟨y0, y1, y2, y3, y4, y5, y6, y7, y8⟩ := at9_of H_k4.out
    have ly := (H_k4.out 0 _ rfl).lt
    go_wp2_with fail
    (with_reducible refine (H_q5.out _).mono ?_)
    rintro e w5 ⟨rfl, b5⟩
    have c5 : Below w4.heap.size w4 w5 := Below.trans belt (b5.mono omh)
    have s5 := c5.size
    have bb5 := H_bb4.out.trans (c5.mono H_bb4.out.size)
    have k5 := H_k4.out.below c5
    have ⟨H_b5, H_c5, H_bb5, H_k5⟩ := hid4 b5 c5 bb5 k5; clear b5 c5 bb5 k5
    clear ly
    clear y0 y1 y2 y3 y4 y5 y6 y7 y8
    obtain ⟨y0, y1, y2, y3, y4, y5, y6, y7, y8⟩ := at9_of H_k5.out
    have ly := (H_k5.out 0 _ rfl).lt
    go_wp2_with fail
    (with_reducible refine (H_q6.out _ ?_).mono ?_)
    · exact H_bb5.out.trans ((show Below w5.heap.size w5 _ from belt).mono H_bb5.out.size)
    rintro e w6 ⟨rfl, b6⟩
    have c6 : Below w5.heap.size w5 w6 := Below.trans belt (b6.mono omh)
    have s6 := c6.size
    have bb6 := H_bb5.out.trans (c6.mono H_bb5.out.size)
    have k6 := H_k5.out.below c6
    have ⟨H_b6, H_c6, H_bb6, H_k6⟩ := hid4 b6 c6 bb6 k6; clear b6 c6 bb6 k6
    clear ly
    clear y0 y1 y2 y3 y4 y5 y6 y7 y8
    obtain ⟨y0, y1, y2, y3, y4, y5, y6, y7, y8⟩ := at9_of H_k6.out
    have ly := (H_k6.out 0 _ rfl).lt
    go_wp2_with fail
    (with_reducible refine (H_q7.out _ ?_).mono ?_)
    · exact H_bb6.out.trans ((show Below w6.heap.size w6 _ from belt).mono H_bb6.out.size)
    rintro e w7 ⟨rfl, b7⟩
    have c7 : Below w6.heap.size w6 w7 := Below.trans belt (b7.mono omh)
    have s7 := c7.size
    have bb7 := H_bb6.out.trans (c7.mono H_bb6.out.size)
    have k7 := H_k6.out.below c7
    have ⟨H_b7, H_c7, H_bb7, H_k7⟩ := hid4 b7 c7 bb7 k7; clear b7 c7 bb7 k7
    clear ly
    clear y0 y1 y2 y3 y4 y5 y6 y7 y8
    obtain ⟨y0, y1, y2, y3, y4, y5, y6, y7, y8⟩ := at9_of H_k7.out
    have ly := (H_k7.out 0 _ rfl).lt
    cases x1
    · cases V5
      · cases x4
        · cases V6
          · go_wp2_with fail
            go_ret2
            exact ⟨by simp, H_bb7.out⟩
          · cases x2
            all_goals
              go_wp2_with fail
              go_ret2
              exact ⟨by simp, H_bb7.out⟩
        · cases V7
          · cases V6
            · go_wp2_with fail
              go_ret2
              exact ⟨by simp, H_bb7.out⟩
            · cases x2
              all_goals
                go_wp2_with fail
                go_ret2
                exact ⟨by simp, H_bb7.out⟩
          · go_wp2_with fail
            go_ret2
            exact ⟨by simp, H_bb7.out⟩
      · go_wp2_with fail
        go_ret2
        exact ⟨by simp, H_bb7.out⟩
    · go_wp2_with fail
      go_ret2
      exact ⟨by simp, H_bb7.out⟩
theorem bne_of {a b : Int} {x : Bool} (h : (a == b) = x) : (a != b) = !x := by rw [← h]; rfl
theorem cnt_is {bs : List Crd} {c : Crd} {key t : Int} (hV : mayV bs c key t = true) (door : Int) : cntD bs c door key t = (((c.d == door) || (c.d == 0)) && (if (c.k == 3) = true then chkB c key && !rvkD bs c.i && decide (c.f ≤ t) && decide (t < c.u) else mayR bs c key t)) := by
  rw [mayR, hV, Bool.true_and, may_is, cntD, mayD, inD, beq_dec, beq_dec, beq_dec]
  by_cases h3 : c.k = 3
  · have h1 : ¬ c.k = 1 := by omega
    rw [decide_eq_true h3, decide_eq_false h1, if_pos rfl]
    generalize decide (c.d = door) = x1
    generalize decide (c.d = 0) = x2
    generalize rvkD bs c.i = x3
    generalize decide (c.f ≤ t) = x4
    generalize decide (t < c.u) = x5
    generalize chkB c key = x6
    generalize newD bs c.n = x7
    revert x1 x2 x3 x4 x5 x6 x7
    decide
  · rw [decide_eq_false h3, if_neg (by simp)]
    generalize decide (c.d = door) = x1
    generalize decide (c.d = 0) = x2
    generalize rvkD bs c.i = x3
    generalize decide (c.f ≤ t) = x4
    generalize decide (t < c.u) = x5
    generalize chkB c key = x6
    generalize (decide (c.k = 1) && newD bs c.n) = x7
    revert x1 x2 x3 x4 x5 x6 x7
    decide
set_option maxHeartbeats 16000000 in
theorem rcounts_any (c : Crd) (door key : Int) (A : Option Addr) (cp n : Nat) (bs : List Crd) (t : Int) (w : World) (hc : CFit c) (hln : bs.length = n) (hn : n ≤ 9223372036854775807) (hl : Cards w A bs) (hV : mayV bs c key t = true) :
    Calls Tryz.prog 17 #[.agg c.cells.toArray, .int .i64 door, .int .i64 key, .slice A n cp, .int .i64 t] w fun e w' => e = .returned (.bool (cntD bs c door key t)) ∧ Below w.heap.size w w' := by
  obtain ⟨w0, hw0⟩ : ∃ W, w.alloc (.cells c.cells.toArray 28) = W := ⟨_, rfl⟩
  have bb0 : Below w.heap.size w w0 := by rw [← hw0]; exact (Below.refl _ _).alloc (Nat.le_refl _) _
  have k0 : Blk w0 w.heap.size c.cells.toArray := by rw [← hw0]; exact blk_new rfl
  have q1 := fun W (h : Below w.heap.size w W) => rmay38_any c key A cp n bs t W hc hln hn (hl.below h)
  have q2 := fun W => rccheck_any c key hc W
  have q3 := fun W (h : Below w.heap.size w W) => rrevoked_any c.i A cp n bs hln hn W (hl.below h)
  rw [cnt_is hV]
  generalize mayR bs c key t = M at *
  generalize mayE bs c key t = ME at *
  generalize rvkD bs c.i = V5 at *
  generalize chkB c key = V6 at *
  generalize chkE c key = E6 at *
  obtain ⟨v1, h1⟩ : ∃ x, (c.d == door) = x := ⟨_, rfl⟩
  obtain ⟨v2, h2⟩ : ∃ x, (c.d == 0) = x := ⟨_, rfl⟩
  obtain ⟨v3, h3⟩ : ∃ x, (c.k == 3) = x := ⟨_, rfl⟩
  obtain ⟨v4, h4⟩ : ∃ x, decide (c.f ≤ t) = x := ⟨_, rfl⟩
  obtain ⟨v5, h5⟩ : ∃ x, decide (t < c.u) = x := ⟨_, rfl⟩
  have n1 := bne_of h1
  have n2 := bne_of h2
  have n3 := bne_of h3
  rw [h1, h2, h3, h4, h5]
  unfold Crd.cells at k0 hw0 q1 q2 ⊢
  have ⟨H_hw0, H_bb0, H_k0, H_q1, H_q2, H_q3, H_hc, H_hln⟩ := hid8 hw0 bb0 k0 q1 q2 q3 hc hln; clear hw0 bb0 k0 q1 q2 q3 hc hln; have ⟨H_hl, H_hV⟩ := hid2 hl hV; clear hl hV
  cases v1
  · cases v2
    · (try simp only [Bool.not_false, Bool.not_true] at n1 n2 n3)
      go_enter Tryz.func17, Tryz.ntmps17
      go_upto_region 1 with (fail)
      rw [H_hw0.out]
      obtain ⟨y0, y1, y2, y3, y4, y5, y6, y7, y8⟩ := at9_of H_k0.out
      have ly := (H_k0.out 0 _ rfl).lt
      go_wp2_with fail
      all_goals
        go_ret
        exact ⟨rfl, H_bb0.out⟩
    · cases v3
      · (try simp only [Bool.not_false, Bool.not_true] at n1 n2 n3)
        go_enter Tryz.func17, Tryz.ntmps17
        go_upto_region 1 with (fail)
        rw [H_hw0.out]
        obtain ⟨y0, y1, y2, y3, y4, y5, y6, y7, y8⟩ := at9_of H_k0.out
        have ly := (H_k0.out 0 _ rfl).lt
        go_wp2_with fail
        (with_reducible refine (H_q1.out _ ?_).mono ?_)
        · exact H_bb0.out.trans ((show Below w0.heap.size w0 _ from belt).mono H_bb0.out.size)
        rintro e w1 ⟨rfl, b1⟩
        have c1 : Below w0.heap.size w0 w1 := Below.trans belt (b1.mono omh)
        have s1 := c1.size
        have bb1 := H_bb0.out.trans (c1.mono H_bb0.out.size)
        have ⟨H_b1, H_c1, H_bb1⟩ := hid3 b1 c1 bb1; clear b1 c1 bb1
        go_wp2_with fail
        go_ret
        exact ⟨by simp, H_bb1.out⟩
      · (try simp only [Bool.not_false, Bool.not_true] at n1 n2 n3)
        go_enter Tryz.func17, Tryz.ntmps17
        go_upto_region 1 with (fail)
        rw [H_hw0.out]
        obtain ⟨y0, y1, y2, y3, y4, y5, y6, y7, y8⟩ := at9_of H_k0.out
        have ly := (H_k0.out 0 _ rfl).lt
        go_wp2_with fail
        (with_reducible refine (H_q2.out _).mono ?_)
        rintro e w1 ⟨rfl, b1⟩
        have c1 : Below w0.heap.size w0 w1 := Below.trans belt (b1.mono omh)
        have s1 := c1.size
        have bb1 := H_bb0.out.trans (c1.mono H_bb0.out.size)
        have k1 := H_k0.out.below c1
        have ⟨H_b1, H_c1, H_bb1, H_k1⟩ := hid4 b1 c1 bb1 k1; clear b1 c1 bb1 k1
        clear ly
        clear y0 y1 y2 y3 y4 y5 y6 y7 y8
        obtain ⟨y0, y1, y2, y3, y4, y5, y6, y7, y8⟩ := at9_of H_k1.out
        have ly := (H_k1.out 0 _ rfl).lt
        go_wp2_with fail
        (with_reducible refine (H_q3.out _ ?_).mono ?_)
        · exact H_bb1.out.trans ((show Below w1.heap.size w1 _ from belt).mono H_bb1.out.size)
        rintro e w2 ⟨rfl, b2⟩
        have c2 : Below w1.heap.size w1 w2 := Below.trans belt (b2.mono omh)
        have s2 := c2.size
        have bb2 := H_bb1.out.trans (c2.mono H_bb1.out.size)
        have k2 := H_k1.out.below c2
        have ⟨H_b2, H_c2, H_bb2, H_k2⟩ := hid4 b2 c2 bb2 k2; clear b2 c2 bb2 k2
        clear ly
        clear y0 y1 y2 y3 y4 y5 y6 y7 y8
        obtain ⟨y0, y1, y2, y3, y4, y5, y6, y7, y8⟩ := at9_of H_k2.out
        have ly := (H_k2.out 0 _ rfl).lt
        cases V6
        · go_wp2_with fail
          go_ret
          exact ⟨by simp, H_bb2.out⟩
        · cases V5
          · cases v4
            all_goals
              go_wp2_with fail
              go_ret
              exact ⟨by simp, H_bb2.out⟩
          · go_wp2_with fail
            go_ret
            exact ⟨by simp, H_bb2.out⟩
  · cases v3
    · (try simp only [Bool.not_false, Bool.not_true] at n1 n2 n3)
      go_enter Tryz.func17, Tryz.ntmps17
      go_upto_region 1 with (fail)
      rw [H_hw0.out]
      obtain ⟨y0, y1, y2, y3, y4, y5, y6, y7, y8⟩ := at9_of H_k0.out
      have ly := (H_k0.out 0 _ rfl).lt
      go_wp2_with fail
      (with_reducible refine (H_q1.out _ ?_).mono ?_)
      · exact H_bb0.out.trans ((show Below w0.heap.size w0 _ from belt).mono H_bb0.out.size)
      rintro e w1 ⟨rfl, b1⟩
      have c1 : Below w0.heap.size w0 w1 := Below.trans belt (b1.mono omh)
      have s1 := c1.size
      have bb1 := H_bb0.out.trans (c1.mono H_bb0.out.size)
      have ⟨H_b1, H_c1, H_bb1⟩ := hid3 b1 c1 bb1; clear b1 c1 bb1
      go_wp2_with fail
      go_ret
      exact ⟨by simp, H_bb1.out⟩
    · (try simp only [Bool.not_false, Bool.not_true] at n1 n2 n3)
      go_enter Tryz.func17, Tryz.ntmps17
      go_upto_region 1 with (fail)
      rw [H_hw0.out]
      obtain ⟨y0, y1, y2, y3, y4, y5, y6, y7, y8⟩ := at9_of H_k0.out
      have ly := (H_k0.out 0 _ rfl).lt
      go_wp2_with fail
      (with_reducible refine (H_q2.out _).mono ?_)
      rintro e w1 ⟨rfl, b1⟩
      have c1 : Below w0.heap.size w0 w1 := Below.trans belt (b1.mono omh)
      have s1 := c1.size
      have bb1 := H_bb0.out.trans (c1.mono H_bb0.out.size)
      have k1 := H_k0.out.below c1
      have ⟨H_b1, H_c1, H_bb1, H_k1⟩ := hid4 b1 c1 bb1 k1; clear b1 c1 bb1 k1
      clear ly
      clear y0 y1 y2 y3 y4 y5 y6 y7 y8
      obtain ⟨y0, y1, y2, y3, y4, y5, y6, y7, y8⟩ := at9_of H_k1.out
      have ly := (H_k1.out 0 _ rfl).lt
      go_wp2_with fail
      (with_reducible refine (H_q3.out _ ?_).mono ?_)
      · exact H_bb1.out.trans ((show Below w1.heap.size w1 _ from belt).mono H_bb1.out.size)
      rintro e w2 ⟨rfl, b2⟩
      have c2 : Below w1.heap.size w1 w2 := Below.trans belt (b2.mono omh)
      have s2 := c2.size
      have bb2 := H_bb1.out.trans (c2.mono H_bb1.out.size)
      have k2 := H_k1.out.below c2
      have ⟨H_b2, H_c2, H_bb2, H_k2⟩ := hid4 b2 c2 bb2 k2; clear b2 c2 bb2 k2
      clear ly
      clear y0 y1 y2 y3 y4 y5 y6 y7 y8
      obtain ⟨y0, y1, y2, y3, y4, y5, y6, y7, y8⟩ := at9_of H_k2.out
      have ly := (H_k2.out 0 _ rfl).lt
      cases V6
      · go_wp2_with fail
        go_ret
        exact ⟨by simp, H_bb2.out⟩
      · cases V5
        · cases v4
          all_goals
            go_wp2_with fail
            go_ret
            exact ⟨by simp, H_bb2.out⟩
        · go_wp2_with fail
          go_ret
          exact ⟨by simp, H_bb2.out⟩
theorem exO_at (cs : List Crd) (d k : Int) : ∀ (p : List Shw) (bs : List Crd) (i : Nat) (s : Shw), p[i]? = some s → (exO cs d k bs p)[i]? = some (opnB d k (exB cs d k bs (p.take i)) (cdD cs s.j) s)
  | [], _, i, s, h => by simp at h
  | x :: r, bs, 0, s, h => by
    have e : x = s := by simpa using h
    subst e; rfl
  | x :: r, bs, i + 1, s, h => by
    simp only [List.getElem?_cons_succ] at h
    simp only [exO, List.getElem?_cons_succ, List.take_succ_cons, exB]
    exact exO_at cs d k r _ i s h
theorem exB_snoc (cs : List Crd) (d k : Int) : ∀ (p : List Shw) (bs : List Crd) (i : Nat) (s : Shw), p[i]? = some s → exB cs d k bs (p.take (i + 1)) = nxtB d k (exB cs d k bs (p.take i)) (cdD cs s.j) s
  | [], _, i, s, h => by simp at h
  | x :: r, bs, 0, s, h => by
    have e : x = s := by simpa using h
    subst e; simp [exB]
  | x :: r, bs, i + 1, s, h => by
    simp only [List.getElem?_cons_succ] at h
    simp only [List.take_succ_cons, exB]
    exact exB_snoc cs d k r _ i s h
/-- the showing of a triple -/
def triS (m : Nat) (z : Tri) : Sh4 := ⟨0, ((z.a % m : Nat) : Int), ((z.b % 1000000000 : Nat) : Int), ((z.c % 4 : Nat) : Int)⟩
theorem triS_good {m : Nat} (hm : 0 < m) (z : Tri) : GoodS 1 m (triS m z) := by
  have h1 := Nat.mod_lt z.a hm
  have h2 := Nat.mod_lt z.b (show 0 < 1000000000 by omega)
  have h3 := Nat.mod_lt z.c (show 0 < 4 by omega)
  exact ⟨by simp [triS], by simp [triS], by simp only [triS]; exact Int.natCast_nonneg _, by simp only [triS]; omega, by simp only [triS]; exact Int.natCast_nonneg _, by simp only [triS]; omega, timeB_iff.2 ⟨by simp only [triS]; exact Int.natCast_nonneg _, by simp only [triS]; omega⟩⟩
theorem exact_plain {d : Int} (hd : 1 ≤ d ∧ d ≤ 400) {cs : List Crd} (hc : cdsB cs = true) (hm : 0 < cs.length) {l : List Tri} (hl : l.length ≤ 20) :
    runB [nl d] cs (l.map (triS cs.length)) = true ∧ runW [nl d] cs (l.map (triS cs.length)) = exO cs d 1024 [] ((l.map (triS cs.length)).map Sh4.shw) := by
  have hg : ∀ s ∈ l.map (triS cs.length), GoodS 1 cs.length s := fun s hs => by
    obtain ⟨z, _, rfl⟩ := List.mem_map.1 hs
    exact triS_good hm z
  have hB : runB [nl d] cs (l.map (triS cs.length)) = true := by
    have h1 : lksB [nl d] = true := by simp [lksB, lv_nl hd]
    have h2 : noneW [nl d].length cs.length (l.map (triS cs.length)) = true := none_iff.2 hg
    rw [runB, h1, hc, h2]; rfl
  refine ⟨hB, ?_⟩
  rw [(ran hB).1]
  have ha : allV cs = true := by rw [cdsB, Bool.and_eq_true] at hc; exact hc.2
  refine exact_run _ _ _ _ (bef_nl hd) (fun s hs => ?_) (by simp; omega)
  obtain ⟨x, hx, rfl⟩ := List.mem_map.1 hs
  have g := hg x hx
  have a0 := g.a0; have a1 := g.a1; have b0 := g.b0; have b1 := g.b1
  refine ⟨by show x.a.toNat = 0; omega, ?_, g.t, g.d0, g.d1⟩
  obtain ⟨c, hcc⟩ : ∃ c, cs[x.b.toNat]? = some c := ⟨_, List.getElem?_eq_getElem (by omega)⟩
  show cvB (cdD cs x.b.toNat) = true
  rw [cdD_at hcc]
  exact List.all_eq_true.1 ha c (List.mem_of_getElem? hcc)
/-- the cards that count are some of these -/
theorem exB_mem (cs : List Crd) (d k : Int) : ∀ (p : List Shw) (bs : List Crd), (∀ s ∈ p, s.j < cs.length) → (exB cs d k bs p).length ≤ bs.length + p.length ∧ ∀ c ∈ exB cs d k bs p, c ∈ bs ∨ c ∈ cs
  | [], bs, _ => ⟨Nat.le_refl _, fun c hc => .inl hc⟩
  | s :: r, bs, h => by
    obtain ⟨h1, h2⟩ := exB_mem cs d k r (nxtB d k bs (cdD cs s.j) s) (fun x hx => h x (List.mem_cons_of_mem _ hx))
    have hj := h s List.mem_cons_self
    have hc : cdD cs s.j ∈ cs := by
      unfold cdD
      rw [List.getD_eq_getElem?_getD, List.getElem?_eq_getElem hj]
      exact List.getElem_mem hj
    have hn : (nxtB d k bs (cdD cs s.j) s).length ≤ bs.length + 1 ∧ ∀ c ∈ nxtB d k bs (cdD cs s.j) s, c ∈ bs ∨ c ∈ cs := by
      unfold nxtB; split
      · refine ⟨by simp, fun c hc2 => ?_⟩
        rcases List.mem_append.1 hc2 with h3 | h3
        · exact .inl h3
        · rw [List.mem_singleton] at h3; rw [h3]; exact .inr hc
      · exact ⟨by omega, fun c hc2 => .inl hc2⟩
    refine ⟨by rw [exB, List.length_cons]; omega, fun c hc2 => ?_⟩
    rw [exB] at hc2
    rcases h2 c hc2 with h3 | h3
    · exact hn.2 c h3
    · exact .inr h3
theorem exB_ok {cs : List Crd} (hc : cdsB cs = true) {d k : Int} {p : List Shw} (hp : ∀ s ∈ p, s.j < cs.length) (hl : p.length ≤ 100) : cdsB (exB cs d k [] p) = true ∧ (exB cs d k [] p).length ≤ p.length ∧ ∀ c ∈ exB cs d k [] p, c ∈ cs := by
  obtain ⟨h1, h2⟩ := exB_mem cs d k p [] hp
  rw [List.length_nil, Nat.zero_add] at h1
  have h3 : ∀ c ∈ exB cs d k [] p, c ∈ cs := fun c hcm => (h2 c hcm).resolve_left (by simp)
  refine ⟨?_, h1, h3⟩
  rw [cdsB, Bool.and_eq_true, decide_eq_true_eq] at hc ⊢
  refine ⟨by omega, List.all_eq_true.2 fun c hcm => List.all_eq_true.1 hc.2 c (h3 c hcm)⟩
end Go.Proofs.YtclgncaghiinhaaGreatDoor
