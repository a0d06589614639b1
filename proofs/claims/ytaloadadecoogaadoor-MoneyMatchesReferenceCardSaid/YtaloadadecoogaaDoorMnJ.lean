/- Contracts of package money: Share. -/
import Derived.Test.YtaloadadecoogaaDoorMnI
import Derived.Test.YtaloadadecoogaaDoorOpn1
namespace Go.Proofs.YtaloadadecoogaaDoor
set_option linter.unusedSimpArgs false
set_option linter.unusedVariables false
set_option maxRecDepth 100000
open Go.RowKit Go.Maps

theorem infoMI : (Tryd.prog.info? 3).map (fun i => (i.zero, i.size, i.bytes)) = some (some (.int .i64 0), 1, 8) := by kernel_rfl
theorem mul_in {c S : Int} (hc : -1000000000 ≤ c ∧ c ≤ 1000000000) (hS : 0 ≤ S ∧ S ≤ 1000000000) : -1000000000000000000 ≤ c * S ∧ c * S ≤ 1000000000000000000 := by
  have h := Int.natAbs_mul c S
  have h2 : c.natAbs * S.natAbs ≤ 1000000000 * 1000000000 := Nat.mul_le_mul (by omega) (by omega)
  omega
set_option maxHeartbeats 4000000 in
theorem shnext_any (x c S T : Int) (g0 g1 g2 : Nat) (w : World) (h0 : Blk w g0 #[.int .i64 c]) (h1 : Blk w g1 #[.int .i64 S]) (h2 : Blk w g2 #[.int .i64 T]) (n0 : g0 ≠ g1) (n2 : g2 ≠ g1)
    (hc : -1000000000 ≤ c ∧ c ≤ 1000000000) (hS : 0 ≤ S) (hx : 0 ≤ x) (hT : S + x ≤ T ∧ 0 < T ∧ T ≤ 1000000000) :
    Calls Tryd.prog 32 #[.int .i64 x, .pointer (some ⟨g0, 0, none⟩), .pointer (some ⟨g1, 0, none⟩), .pointer (some ⟨g2, 0, none⟩)] w fun e w' => e = .returned (.int .i64 ((c * (S + x)) / T - (c * S) / T)) ∧ w' = w.setCell ⟨g1, 0, none⟩ (.int .i64 (S + x)) := by
  have m1 := mul_in hc (S := S) (by omega)
  have m2 := mul_in hc (S := S + x) (by omega)
  have q1 := fun W => mfloor_any (c * S) T (by omega) (by omega) W
  have q2 := fun W => mfloor_any (c * (S + x)) T (by omega) (by omega) W
  have hab : (-1000000000000000000 ≤ (c * S) / T ∧ (c * S) / T ≤ 1000000000000000000) ∧ (-1000000000000000000 ≤ (c * (S + x)) / T ∧ (c * (S + x)) / T ≤ 1000000000000000000) := by
    have a1 := Int.ediv_le_ediv (show 0 < T by omega) m1.1
    have a2 := Int.ediv_le_ediv (show 0 < T by omega) m1.2
    have a3 := Int.ediv_le_ediv (show 0 < T by omega) m2.1
    have a4 := Int.ediv_le_ediv (show 0 < T by omega) m2.2
    have z1 : (1000000000000000000 : Int) / T ≤ 1000000000000000000 := Int.ediv_le_self _ (by omega)
    have z2 : (-1000000000000000000 : Int) ≤ (-1000000000000000000 : Int) / T := by
      rw [Int.le_ediv_iff_mul_le (by omega)]; omega
    omega
  have k1 : IntKind.i64.wrap (c * S) = c * S := IntWalk.i64_in _ (by omega)
  have k2 : IntKind.i64.wrap (c * (S + x)) = c * (S + x) := IntWalk.i64_in _ (by omega)
  have k3 : IntKind.i64.wrap (S + x) = S + x := IntWalk.i64_in _ (by omega)
  have k4 : IntKind.i64.wrap ((c * (S + x)) / T - (c * S) / T) = (c * (S + x)) / T - (c * S) / T := IntWalk.i64_in _ (by omega)
  have j0 := h0.far (o := 0) (Ne.symm n0) (.int .i64 (S + x))
  have j1 := h1.set 0 (.int .i64 (S + x)) (by simp)
  have j2 := h2.far (o := 0) (Ne.symm n2) (.int .i64 (S + x))
  simp only [List.setIfInBounds_toArray, List.set_cons_zero] at j1
  have y0 := (h0 0 _ rfl).at
  have y1 := (h1 0 _ rfl).at
  have y2 := (h2 0 _ rfl).at
  have f1 := (h1 0 _ rfl).free
  have l0 := (h0 0 _ rfl).lt
  have l1 := (h1 0 _ rfl).lt
  have l2 := (h2 0 _ rfl).lt
  clear m1 m2
  obtain ⟨w1, hw1⟩ : ∃ W, w.setCell ⟨g1, 0, none⟩ (.int .i64 (S + x)) = W := ⟨_, rfl⟩
  rw [hw1] at j0 j1 j2
  rw [hw1]
  generalize (c * S) / T = P at *
  generalize (c * (S + x)) / T = Q at *
  have H_h0 := Lib.hid h0; clear h0; have H_h1 := Lib.hid h1; clear h1; have H_h2 := Lib.hid h2; clear h2; have H_n0 := Lib.hid n0; clear n0; have H_n2 := Lib.hid n2; clear n2; have H_hc := Lib.hid hc; clear hc; have H_hS := Lib.hid hS; clear hS; have H_hx := Lib.hid hx; clear hx; have H_hT := Lib.hid hT; clear hT; have H_q1 := Lib.hid q1; clear q1; have H_q2 := Lib.hid q2; clear q2; have H_hab := Lib.hid hab; clear hab; have H_j0 := Lib.hid j0; clear j0; have H_j1 := Lib.hid j1; clear j1; have H_j2 := Lib.hid j2; clear j2; have H_hw1 := Lib.hid hw1; clear hw1
  go_enter Tryd.func32, Tryd.ntmps32
  go_wp2_with fail
  (with_reducible refine (H_q1.out _).mono ?_)
  rintro e w_ ⟨rfl, rfl⟩
  go_upto_region 3 with (fail)
  rw [H_hw1.out]
  clear y0 y1 y2 f1 l0 l1 l2
  have y0 := (H_j0.out 0 _ rfl).at
  have y1 := (H_j1.out 0 _ rfl).at
  have y2 := (H_j2.out 0 _ rfl).at
  go_wp2_with fail
  (with_reducible refine (H_q2.out _).mono ?_)
  rintro e w_ ⟨rfl, rfl⟩
  go_wp2_with fail
  go_ret
  exact ⟨rfl, rfl⟩
theorem Blk.grown {w w' : World} {b : Nat} {vs : Array Value} {r : Option Nat} (h : Blk w b vs) (hg : w.grownBy w' r) (hne : some b ≠ r) : Blk w' b vs := fun o v hv => by
  obtain ⟨h1, h2, h3⟩ := h o v hv
  exact ⟨Nat.lt_of_lt_of_le h1 hg.size, (hg.cell_far ⟨b, o, none⟩ h1 hne).trans h2, (hg.frozen_far ⟨b, o, none⟩ h1 hne).trans h3⟩
/-- the error and the parts of a share -/
def shE (c : Int) (l : List Int) : Int := if amtB c = true ∧ wtsB l = true then 0 else 1
def shV (c : Int) (l : List Int) : List Int := if shE c l = 0 then shL c (sumL l) 0 l else []
theorem sh_no {c : Int} {l : List Int} (h : ¬ (amtB c = true ∧ wtsB l = true)) : shE c l = 1 ∧ shV c l = [] := by
  have e : shE c l = 1 := by rw [shE, if_neg h]
  exact ⟨e, by rw [shV, e, if_neg (by omega)]⟩
theorem sh_yes {c : Int} {l : List Int} (h : amtB c = true ∧ wtsB l = true) : shE c l = 0 ∧ shV c l = shL c (sumL l) 0 l := by
  have e : shE c l = 0 := by rw [shE, if_pos h]
  exact ⟨e, by rw [shV, e, if_pos rfl]⟩
theorem wts_part {l : List Int} {k : Nat} (hk : k < l.length) (h : inB (l.getD k 0) 0 1000000 = false) (c : Int) : ¬ (amtB c = true ∧ wtsB l = true) := fun ⟨_, h2⟩ => by
  have hm : l.getD k 0 ∈ l := by rw [List.getD_eq_getElem?_getD, List.getElem?_eq_getElem hk]; exact List.getElem_mem hk
  have := (wts_iff.1 h2).1 _ hm
  have e : inB (l.getD k 0) 0 1000000 = true := by rw [inB, decide_eq_true this.1, decide_eq_true this.2]; rfl
  rw [e] at h; cases h
theorem all_take {l : List Int} {k : Nat} (hk : k < l.length) (h : ∀ x ∈ l.take k, 0 ≤ x ∧ x ≤ 1000000) (h1 : 0 ≤ l.getD k 0 ∧ l.getD k 0 ≤ 1000000) : ∀ x ∈ l.take (k + 1), 0 ≤ x ∧ x ≤ 1000000 := fun x hx => by
  rw [List.take_succ_eq_append_getElem hk] at hx
  rcases List.mem_append.1 hx with hx | hx
  · exact h x hx
  · have e : l.getD k 0 = l[k] := by rw [List.getD_eq_getElem?_getD, List.getElem?_eq_getElem hk]; rfl
    have : x = l.getD k 0 := by rw [e]; simpa using hx
    rw [this]; exact h1
theorem shL_snoc {c T : Int} {l : List Int} {k : Nat} (hk : k < l.length) : shL c T 0 (l.take (k + 1)) = shL c T 0 (l.take k) ++ [(c * (sumL (l.take k) + l.getD k 0)) / T - (c * sumL (l.take k)) / T] := by
  have e : l.getD k 0 = l[k] := by rw [List.getD_eq_getElem?_getD, List.getElem?_eq_getElem hk]; rfl
  rw [List.take_succ_eq_append_getElem hk, shL_append, Int.zero_add, e]; rfl
set_option maxHeartbeats 8000000 in
theorem mshare_any (A : Option Addr) (cp n : Nat) (c : Int) (l : List Int) (hln : l.length = n) (hn : n ≤ 100000) (hc : -9223372036854775808 ≤ c ∧ c ≤ 9223372036854775807) (w : World) (hl : IntsAt w A .i64 l) :
    Calls Tryd.prog 14 #[.int .i64 c, .slice A n cp] w (OwnErr 3 .i64 (shV c l) (shE c l) w) := by
  obtain ⟨i0, hi, hz0, hz1, hz2⟩ := info_parts infoMI
  obtain ⟨w0, hw0⟩ : ∃ W, (w.alloc (.cells #[.int .i64 c] 3)).alloc (.cells #[.int .i64 0] 3) = W := ⟨_, rfl⟩
  have bb0 : Below w.heap.size w w0 := by rw [← hw0]; exact ((Below.refl _ _).alloc (Nat.le_refl _) _).alloc (by simp) _
  have k0 : Blk w0 w.heap.size #[.int .i64 c] := by
    rw [← hw0]
    exact (blk_new (w := w) (t := 3) rfl).below ((Below.refl _ _).alloc (Nat.le_refl _) _)
  have r0 : Blk w0 (w.heap.size + 1) #[.int .i64 0] := by
    have h := blk_new (w := w.alloc (.cells #[.int .i64 c] 3)) (vs := #[.int .i64 0]) (t := 3) rfl
    rw [hw0] at h
    simpa using h
  have H_hi := Lib.hid hi; clear hi; have H_hz0 := Lib.hid hz0; clear hz0; have H_hz1 := Lib.hid hz1; clear hz1; have H_hz2 := Lib.hid hz2; clear hz2; have H_hw0 := Lib.hid hw0; clear hw0; have H_bb0 := Lib.hid bb0; clear bb0; have H_k0 := Lib.hid k0; clear k0; have H_r0 := Lib.hid r0; clear r0; have H_hln := Lib.hid hln; clear hln; have H_hl := Lib.hid hl; clear hl; have H_hc := Lib.hid hc; clear hc
  go_enter Tryd.func14, Tryd.ntmps14
  go_upto_region 2 with (fail)
  rw [H_hw0.out]
  go_wp2_with fail
  go_loopw [16] (fun i wr => ∃ k : Nat, k ≤ n ∧ i = .int .i64 k ∧ Blk wr w.heap.size #[.int .i64 c] ∧ Blk wr (w.heap.size + 1) #[.int .i64 (sumL (l.take k))] ∧ (∀ x ∈ l.take k, 0 ≤ x ∧ x ≤ 1000000) ∧ Below w.heap.size w wr) (fun i _ => n - (intOf i).toNat)
  case atStart => exact ⟨0, by omega, rfl, H_k0.out, H_r0.out, fun x hx => by simp at hx, H_bb0.out⟩
  case round =>
    obtain ⟨k, hk, rfl, kr, rr, hall, hbw⟩ := hrel
    by_cases hlt : k < n
    · have g1 : (k : Int) < (n : Int) := by omega
      have g0 : (0 : Int) ≤ (k : Int) := by omega
      have hk9 : (k : Int) < 100000 := by omega
      obtain ⟨b, off, hA, hbl, hcx⟩ := (H_hl.out.below hbw) k (by rw [H_hln.out]; exact hlt)
      subst hA
      have hkl : k < l.length := by rw [H_hln.out]; exact hlt
      have stp := sum_take l k hkl
      have qw := fun W => mwithin_any (l.getD k 0) 0 1000000 W
      have bd := (sum_le _ hall).1
      have bu := (sum_le _ hall).2.1
      have tl := List.length_take_le k l
      have yw := fun h1 => all_take hkl hall h1
      have nw := fun h1 => wts_part hkl h1 c
      have y0 := (kr 0 _ rfl).at
      have z0 := (rr 0 _ rfl).at
      have f0 := (rr 0 _ rfl).free
      have ly := (kr 0 _ rfl).lt
      have lz := (rr 0 _ rfl).lt
      generalize l.getD k 0 = x at *
      cases hx : inB x 0 1000000 with
      | false =>
        obtain ⟨eE, eV⟩ := sh_no (nw hx)
        rw [hx] at qw
        clear stp bd bu tl yw nw
        have H_kr := Lib.hid kr; clear kr; have H_rr := Lib.hid rr; clear rr; have H_hall := Lib.hid hall; clear hall; have H_hbw := Lib.hid hbw; clear hbw; have H_qw := Lib.hid qw; clear qw; have H_hx := Lib.hid hx; clear hx; have H_eE := Lib.hid eE; clear eE; have H_eV := Lib.hid eV; clear eV
        go_wp2_with fail
        (with_reducible refine (H_qw.out _).mono ?_)
        rintro e w_ ⟨rfl, rfl⟩
        go_wp2_with fail
        go_ret2
        exact ⟨none, 0, by rw [H_eE.out, H_eV.out]; rfl, by rw [H_eV.out]; exact OwnInts.nil _ _ _ _, H_hbw.out⟩
      | true =>
        rw [hx] at qw
        have hx2 : 0 ≤ x ∧ x ≤ 1000000 := by simpa [inB] using hx
        have hall2 := yw hx2
        have kk : IntKind.i64.wrap (sumL (l.take k) + x) = sumL (l.take k) + x := IntWalk.i64_in _ (by omega)
        obtain ⟨w2, hw2⟩ : ∃ W, wr.setCell ⟨w.heap.size + 1, 0, none⟩ (.int .i64 (sumL (l.take k) + x)) = W := ⟨_, rfl⟩
        have k2 := kr.far (o := 0) (g := w.heap.size + 1) (by omega) (.int .i64 (sumL (l.take k) + x))
        have r2 := rr.set 0 (.int .i64 (sumL (l.take k) + x)) (by simp)
        simp only [List.setIfInBounds_toArray, List.set_cons_zero] at r2
        have b2 : Below w.heap.size w (wr.setCell ⟨w.heap.size + 1, 0, none⟩ (.int .i64 (sumL (l.take k) + x))) := hbw.setCell (by simp) _
        rw [hw2] at k2 r2 b2
        rw [← stp] at r2
        clear stp bd bu tl yw nw
        have H_kr := Lib.hid kr; clear kr; have H_rr := Lib.hid rr; clear rr; have H_hall := Lib.hid hall; clear hall; have H_hbw := Lib.hid hbw; clear hbw; have H_qw := Lib.hid qw; clear qw; have H_hx := Lib.hid hx; clear hx; have H_hx2 := Lib.hid hx2; clear hx2; have H_hall2 := Lib.hid hall2; clear hall2; have H_hw2 := Lib.hid hw2; clear hw2; have H_k2 := Lib.hid k2; clear k2; have H_r2 := Lib.hid r2; clear r2; have H_b2 := Lib.hid b2; clear b2
        go_wp2_with fail
        (with_reducible refine (H_qw.out _).mono ?_)
        rintro e w_ ⟨rfl, rfl⟩
        go_upto_region 8 with (fail)
        rw [H_hw2.out]
        go_wp2_with fail
        go_roundw
        case rel => exact ⟨k + 1, by omega, by go_num, H_k2.out, H_r2.out, H_hall2.out, H_b2.out⟩
        case measure => simp [intOf]; omega
    · have g1 : ¬ (k : Int) < (n : Int) := by omega
      have htk : l.take k = l := List.take_of_length_le (by rw [H_hln.out]; omega)
      rw [htk] at rr hall
      obtain ⟨sn, su, _⟩ := sum_le l hall
      rw [H_hln.out] at su
      have q1 := fun W => misAmount_any c W
      have y0 := (kr 0 _ rfl).at
      have z0 := (rr 0 _ rfl).at
      have ly := (kr 0 _ rfl).lt
      have lz := (rr 0 _ rfl).lt
      generalize hT : sumL l = T at *
      cases ha : amtB c with
      | false =>
        rw [ha] at q1
        obtain ⟨eE, eV⟩ := sh_no (c := c) (l := l) (by rw [ha]; simp)
        have H_eE := Lib.hid eE; clear eE; have H_eV := Lib.hid eV; clear eV; have H_kr := Lib.hid kr; clear kr; have H_rr := Lib.hid rr; clear rr; have H_hall := Lib.hid hall; clear hall; have H_hbw := Lib.hid hbw; clear hbw; have H_q1 := Lib.hid q1; clear q1; have H_ha := Lib.hid ha; clear ha; have H_htk := Lib.hid htk; clear htk; have H_hT := Lib.hid hT; clear hT; have H_su := Lib.hid su; clear su; have H_sn := Lib.hid sn; clear sn
        go_wp2_with fail
        (with_reducible refine (H_q1.out _).mono ?_)
        rintro e w_ ⟨rfl, rfl⟩
        go_wp2_with fail
        go_ret2
        exact ⟨none, 0, by rw [H_eE.out, H_eV.out]; rfl, by rw [H_eV.out]; exact OwnInts.nil _ _ _ _, H_hbw.out⟩
      | true =>
        rw [ha] at q1
        by_cases h1 : 1000 < n
        · have i1 : decide ((1000 : Int) < (n : Int)) = true := decide_eq_true (by omega)
          obtain ⟨eE, eV⟩ := sh_no (c := c) (l := l) (by rintro ⟨_, h2⟩; have := (wts_iff.1 h2).2.1; rw [H_hln.out] at this; omega)
          have H_eE := Lib.hid eE; clear eE; have H_eV := Lib.hid eV; clear eV; have H_kr := Lib.hid kr; clear kr; have H_rr := Lib.hid rr; clear rr; have H_hall := Lib.hid hall; clear hall; have H_hbw := Lib.hid hbw; clear hbw; have H_q1 := Lib.hid q1; clear q1; have H_ha := Lib.hid ha; clear ha; have H_htk := Lib.hid htk; clear htk; have H_hT := Lib.hid hT; clear hT; have H_su := Lib.hid su; clear su; have H_sn := Lib.hid sn; clear sn; have H_h1 := Lib.hid h1; clear h1
          go_wp2_with fail
          (with_reducible refine (H_q1.out _).mono ?_)
          rintro e w_ ⟨rfl, rfl⟩
          go_wp2_with fail
          go_ret2
          exact ⟨none, 0, by rw [H_eE.out, H_eV.out]; rfl, by rw [H_eV.out]; exact OwnInts.nil _ _ _ _, H_hbw.out⟩
        have i1 : decide ((1000 : Int) < (n : Int)) = false := decide_eq_false (by omega)
        by_cases h0 : T = 0
        · have i2 : (T == 0) = true := by rw [beq_iff_eq]; exact h0
          obtain ⟨eE, eV⟩ := sh_no (c := c) (l := l) (by rintro ⟨_, h2⟩; have := (wts_iff.1 h2).2.2; omega)
          have H_eE := Lib.hid eE; clear eE; have H_eV := Lib.hid eV; clear eV; have H_kr := Lib.hid kr; clear kr; have H_rr := Lib.hid rr; clear rr; have H_hall := Lib.hid hall; clear hall; have H_hbw := Lib.hid hbw; clear hbw; have H_q1 := Lib.hid q1; clear q1; have H_ha := Lib.hid ha; clear ha; have H_htk := Lib.hid htk; clear htk; have H_hT := Lib.hid hT; clear hT; have H_su := Lib.hid su; clear su; have H_sn := Lib.hid sn; clear sn; have H_h1 := Lib.hid h1; clear h1; have H_h0 := Lib.hid h0; clear h0
          go_wp2_with fail
          (with_reducible refine (H_q1.out _).mono ?_)
          rintro e w_ ⟨rfl, rfl⟩
          go_wp2_with fail
          go_ret2
          exact ⟨none, 0, by rw [H_eE.out, H_eV.out]; rfl, by rw [H_eV.out]; exact OwnInts.nil _ _ _ _, H_hbw.out⟩
        have i2 : (T == 0) = false := by rw [beq_eq_false_iff_ne]; exact h0
        have hwt : wtsB l = true := wts_iff.2 ⟨hall, by rw [H_hln.out]; omega, by omega⟩
        obtain ⟨eE, eV⟩ := sh_yes ⟨ha, hwt⟩
        rw [hT] at eV
        have hca := amtB_iff.1 ha
        have htp : 0 < T := by omega
        have htm : T ≤ 1000000000 := by omega
        have shl := shL_len c T l 0
        rw [H_hln.out] at shl
        have H_kr := Lib.hid kr; clear kr; have H_rr := Lib.hid rr; clear rr; have H_hall := Lib.hid hall; clear hall; have H_hbw := Lib.hid hbw; clear hbw; have H_q1 := Lib.hid q1; clear q1; have H_ha := Lib.hid ha; clear ha; have H_htk := Lib.hid htk; clear htk; have H_hT := Lib.hid hT; clear hT; have H_su := Lib.hid su; clear su; have H_sn := Lib.hid sn; clear sn; have H_h0 := Lib.hid h0; clear h0; have H_eE := Lib.hid eE; clear eE; have H_eV := Lib.hid eV; clear eV; have H_hwt := Lib.hid hwt; clear hwt; have H_hca := Lib.hid hca; clear hca; have H_htp := Lib.hid htp; clear htp; have H_htm := Lib.hid htm; clear htm; have H_shl := Lib.hid shl; clear shl
        go_wp2_with fail
        (with_reducible refine (H_q1.out _).mono ?_)
        rintro e w_ ⟨rfl, rfl⟩
        go_upto_region 12 with (fail)
        obtain ⟨w2, hw2⟩ : ∃ W, wr.alloc (.cells #[.int .i64 0] 3) = W := ⟨_, rfl⟩
        rw [hw2]
        have c2 : Below wr.heap.size wr w2 := by rw [← hw2]; exact (Below.refl _ _).alloc (Nat.le_refl _) _
        have p2 : Blk w2 wr.heap.size #[.int .i64 0] := by rw [← hw2]; exact blk_new rfl
        have s2 := c2.size
        have b2 := H_hbw.out.trans (c2.mono H_hbw.out.size)
        have sb2 := b2.size
        have k2 := H_kr.out.below c2
        have r2 := H_rr.out.below c2
        have lp := (p2 0 _ rfl).lt
        clear y0 z0
        have H_c2 := Lib.hid c2; clear c2; have H_p2 := Lib.hid p2; clear p2; have H_b2 := Lib.hid b2; clear b2; have H_k2 := Lib.hid k2; clear k2; have H_r2 := Lib.hid r2; clear r2
        clear hw2
        generalize wr.heap.size = g2 at *
        go_wp2_with fail
        go_loopw [11, 42] (fun o i wr => ∃ (k : Nat) (B : Option Addr) (d : Nat), k ≤ n ∧ i = .int .i64 k ∧ o = .slice B k d ∧ OwnInts wr w2.heap.size 3 .i64 B d (shL c T 0 (l.take k)) ∧ Blk wr w.heap.size #[.int .i64 c] ∧ Blk wr (w.heap.size + 1) #[.int .i64 T] ∧ Blk wr g2 #[.int .i64 (sumL (l.take k))] ∧ Below w.heap.size w wr ∧ w2.heap.size ≤ wr.heap.size) (fun _ i _ => n - (intOf i).toNat)
        case atStart => exact ⟨0, none, 0, by omega, rfl, rfl, OwnInts.nil _ _ _ _, H_k2.out, H_r2.out, H_p2.out, H_b2.out, Nat.le_refl _⟩
        case round =>
          obtain ⟨k, B, d, hk, rfl, rfl, own, kz, rz, pz, bz, sz⟩ := hrel
          by_cases hlt : k < n
          · have g1 : (k : Int) < (n : Int) := by omega
            have g0 : (0 : Int) ≤ (k : Int) := by omega
            have hk9 : (k : Int) < 100000 := by omega
            obtain ⟨b, off, hA, hbl, hcx⟩ := (H_hl.out.below bz) k (by rw [H_hln.out]; exact hlt)
            subst hA
            have hkl : k < l.length := by rw [H_hln.out]; exact hlt
            have stp := sum_take l k hkl
            have sno := shL_snoc (c := c) (T := T) hkl
            have hm : l.getD k 0 ∈ l := by rw [List.getD_eq_getElem?_getD, List.getElem?_eq_getElem hkl]; exact List.getElem_mem hkl
            have hx2 := H_hall.out _ hm
            have t1 := sum_take_le l H_hall.out k
            have t2 := sum_take_le l H_hall.out (k + 1)
            rw [H_hT.out] at t1 t2
            have len := shL_len c T (l.take k) 0
            rw [List.length_take, H_hln.out, Nat.min_eq_left (by omega)] at len
            rw [stp] at t2
            generalize l.getD k 0 = x at *
            generalize shL c T 0 (l.take k) = L at *
            generalize hL1 : shL c T 0 (l.take (k + 1)) = L1 at *
            generalize hS1 : sumL (l.take (k + 1)) = S1 at *
            generalize sumL (l.take k) = S at *
            have q := shnext_any x c S T w.heap.size g2 (w.heap.size + 1) wr kz pz rz (by omega) (by omega) H_hca.out t1.1 hx2.1 ⟨t2.2, H_htp.out, H_htm.out⟩
            obtain ⟨w3, hw3⟩ : ∃ W, wr.setCell ⟨g2, 0, none⟩ (.int .i64 (S + x)) = W := ⟨_, rfl⟩
            have k3 := kz.far (o := 0) (g := g2) (by omega) (.int .i64 (S + x))
            have r3 := rz.far (o := 0) (g := g2) (by omega) (.int .i64 (S + x))
            have p3 := pz.set 0 (.int .i64 (S + x)) (by simp)
            simp only [List.setIfInBounds_toArray, List.set_cons_zero] at p3
            have b3 : Below w.heap.size w (wr.setCell ⟨g2, 0, none⟩ (.int .i64 (S + x))) := bz.setCell (by simp; omega) _
            have own3 := own.set (p := ⟨g2, 0, none⟩) lp (.int .i64 (S + x))
            have s3 : w2.heap.size ≤ (wr.setCell ⟨g2, 0, none⟩ (.int .i64 (S + x))).heap.size := by simpa using sz
            rw [hw3] at k3 r3 p3 b3 own3 s3 q
            rw [← stp] at p3
            have H_hL1 := Lib.hid hL1; clear hL1; have H_hS1 := Lib.hid hS1; clear hS1; have H_own := Lib.hid own; clear own; have H_kz := Lib.hid kz; clear kz; have H_rz := Lib.hid rz; clear rz; have H_pz := Lib.hid pz; clear pz; have H_bz := Lib.hid bz; clear bz; have H_sz := Lib.hid sz; clear sz; have H_stp := Lib.hid stp; clear stp; have H_sno := Lib.hid sno; clear sno; have H_hm := Lib.hid hm; clear hm; have H_hx2 := Lib.hid hx2; clear hx2; have H_t1 := Lib.hid t1; clear t1; have H_t2 := Lib.hid t2; clear t2; have H_len := Lib.hid len; clear len; have H_q := Lib.hid q; clear q; have H_hw3 := Lib.hid hw3; clear hw3; have H_k3 := Lib.hid k3; clear k3; have H_r3 := Lib.hid r3; clear r3; have H_p3 := Lib.hid p3; clear p3; have H_b3 := Lib.hid b3; clear b3; have H_own3 := Lib.hid own3; clear own3
            go_wp2_with fail
            (with_reducible refine (H_q.out).mono ?_)
            rintro e w_ ⟨rfl, rfl⟩
            go_wp2_with (at_builtin; refine wp_app_at _ rfl (.tmp 46) (.tmp 50) _ rfl w2.heap.size 3 i0 _ 8 Tryd.underlying25 H_hi.out H_hz0.out H_hz1.out H_hz2.out rfl .i64 B d k L H_len.out rfl (H_own3.out.alloc _) (some ⟨w_.heap.size, 0, none⟩) 1 1 [(c * (S + x)) / T - (c * S) / T] rfl rfl (ints_new1 _ _ _ _ _ rfl) (by omega) (by omega) (by simp; omega) ?_)
            intro B2 d2 w4 own4 g4 _
            have k4 := Blk.grown (H_k3.out.alloc (.cells #[.int .i64 ((c * (S + x)) / T - (c * S) / T)] 3)) g4 (fun e => by have := (H_own3.out.lt _ e.symm).1; omega)
            have r4 := Blk.grown (H_r3.out.alloc (.cells #[.int .i64 ((c * (S + x)) / T - (c * S) / T)] 3)) g4 (fun e => by have := (H_own3.out.lt _ e.symm).1; omega)
            have p4 := Blk.grown (H_p3.out.alloc (.cells #[.int .i64 ((c * (S + x)) / T - (c * S) / T)] 3)) g4 (fun e => by have := (H_own3.out.lt _ e.symm).1; omega)
            have b4 : Below w.heap.size w w4 := (H_b3.out.alloc H_b3.out.size _).grown g4 (by simp; have := H_b3.out.size; omega) (fun g hg => by have := (H_own3.out.lt g hg).1; have := H_b2.out.size; omega)
            rw [← H_sno.out] at own4
            have s4 : w2.heap.size ≤ w4.heap.size := by have := g4.size; simp at this; omega
            have H_own4 := Lib.hid own4; clear own4; have H_g4 := Lib.hid g4; clear g4; have H_k4 := Lib.hid k4; clear k4; have H_r4 := Lib.hid r4; clear r4; have H_p4 := Lib.hid p4; clear p4; have H_b4 := Lib.hid b4; clear b4
            go_wp2_with fail
            go_roundw
            case rel => exact ⟨k + 1, B2, d2, by omega, by go_num, by rfl, (by rw [H_hL1.out]; exact H_own4.out), H_k4.out, H_r4.out, (by rw [H_hS1.out]; exact H_p4.out), H_b4.out, s4⟩
            case measure => simp [intOf]; omega
          · have g1 : ¬ (k : Int) < (n : Int) := by omega
            have hkn : k = n := by omega
            have tk : l.take k = l := List.take_of_length_le (by rw [H_hln.out]; omega)
            rw [tk] at own
            subst hkn
            have H_own := Lib.hid own; clear own; have H_kz := Lib.hid kz; clear kz; have H_rz := Lib.hid rz; clear rz; have H_pz := Lib.hid pz; clear pz; have H_bz := Lib.hid bz; clear bz; have H_sz := Lib.hid sz; clear sz; have H_tk := Lib.hid tk; clear tk
            go_wp2_with fail
            go_ret2
            exact ⟨B, d, by rw [H_eE.out, H_eV.out, H_shl.out]; rfl, by rw [H_eV.out]; exact H_own.out.base_le sb2, H_bz.out⟩
end Go.Proofs.YtaloadadecoogaaDoor
