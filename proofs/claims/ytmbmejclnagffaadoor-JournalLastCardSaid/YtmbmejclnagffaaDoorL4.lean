/- The walk of JournalLast. -/
import Derived.BigRegion
import Derived.Test.YtmbmejclnagffaaDoorM1
import Derived.Test.YtmbmejclnagffaaDoorM2
import Derived.Test.YtmbmejclnagffaaDoorM3
import Derived.Test.YtmbmejclnagffaaDoorM4
import Derived.Test.YtmbmejclnagffaaDoorM5
import Derived.Test.YtmbmejclnagffaaDoorM6
import Derived.Test.YtmbmejclnagffaaDoorM7
import Derived.Test.YtmbmejclnagffaaDoorM8
import Derived.Test.YtmbmejclnagffaaDoorM9
import Derived.Test.YtmbmejclnagffaaDoorM10
import Derived.Test.YtmbmejclnagffaaDoorM11
import Derived.Test.YtmbmejclnagffaaDoorM12
import Derived.Test.YtmbmejclnagffaaDoorM13
import Derived.Test.YtmbmejclnagffaaDoorM14
import Derived.Test.YtmbmejclnagffaaDoorM15
import Derived.Test.YtmbmejclnagffaaDoorM16
import Derived.Test.YtmbmejclnagffaaDoorM17
import Derived.Test.YtmbmejclnagffaaDoorM18
import Derived.Test.YtmbmejclnagffaaDoorM19
import Derived.Test.YtmbmejclnagffaaDoorM20
import Derived.Test.YtmbmejclnagffaaDoorM21
import Derived.Test.YtmbmejclnagffaaDoorM22
import Derived.Test.YtmbmejclnagffaaDoorM23
import Derived.Test.YtmbmejclnagffaaDoorM24
import Derived.Test.YtmbmejclnagffaaDoorM25
import Derived.Test.YtmbmejclnagffaaDoorM26
import Derived.Test.YtmbmejclnagffaaDoorM27
import Derived.Test.YtmbmejclnagffaaDoorM28
import Derived.Test.YtmbmejclnagffaaDoorM29
import Derived.Test.YtmbmejclnagffaaDoorM30
import Derived.Test.YtmbmejclnagffaaDoorM31
import Derived.Test.YtmbmejclnagffaaDoorM32
import Derived.Test.YtmbmejclnagffaaDoorM33
import Derived.Test.YtmbmejclnagffaaDoorM34
import Derived.Test.YtmbmejclnagffaaDoorM35
import Derived.Test.YtmbmejclnagffaaDoorM36
import Derived.Test.YtmbmejclnagffaaDoorM37
import Derived.Test.YtmbmejclnagffaaDoorM38
import Derived.Test.YtmbmejclnagffaaDoorM39
import Derived.Test.YtmbmejclnagffaaDoorM40
import Derived.Test.YtmbmejclnagffaaDoorM41
import Derived.Test.YtmbmejclnagffaaDoorM42
import Derived.Test.YtmbmejclnagffaaDoorM43
import Derived.Test.YtmbmejclnagffaaDoorM44
import Derived.Test.YtmbmejclnagffaaDoorM45
import Derived.Test.YtmbmejclnagffaaDoorM46
import Derived.Test.YtmbmejclnagffaaDoorM47
import Derived.Test.YtmbmejclnagffaaDoorM48
import Derived.Test.YtmbmejclnagffaaDoorL1
import Derived.Test.YtmbmejclnagffaaDoorL3
set_option linter.unusedSimpArgs false
set_option linter.unusedVariables false
set_option maxRecDepth 100000
namespace Go.Proofs.YtmbmejclnagffaaDoor
open Go.RowKit
theorem cnt_pos {k : Int} (h : 1 ≤ k ∧ k ≤ 9) : 1 ≤ cntI k := by
  rcases (show k = 1 ∨ k = 2 ∨ k = 3 ∨ k = 4 ∨ k = 5 ∨ k = 6 ∨ k = 7 ∨ k = 8 ∨ k = 9 by omega) with rfl | rfl | rfl | rfl | rfl | rfl | rfl | rfl | rfl <;> decide
theorem turn_sum (v b : Int) : v + ((v % 10 + 1 + b % 9) % 10 - v % 10) = turnI v b := by unfold turnI; omega
set_option maxHeartbeats 32000000 in
set_option maxRecDepth 100000 in
theorem journalLast_walk (party sec : Int) (E : Option Addr) (ce : Nat) (l : List Ent) (which by_ : Int) (w : World) (hp0 : (Lit.int .i64 party).wf = true) (_ : (Lit.int .i64 sec).wf = true) (he : EntsArg w E ce l) (hwh : (Lit.int .u8 which).wf = true) (hby : (Lit.int .u8 by_).wf = true) (ht : JTab w) :
    Calls Tryd.prog 4 #[.int .i64 party, .int .i64 sec, .slice E l.length ce, .int .u8 which, .int .u8 by_] w fun e w' => e = .returned (.bool true) ∧ Below w.heap.size w w' := by
  obtain ⟨i0, hi0, hz0, hz1, hz2⟩ := info_parts infoMs
  obtain ⟨i1, hi1, hy0, hy1, hy2⟩ := info_parts infoJI
  obtain ⟨N, hN⟩ : ∃ N, l.length = N := ⟨_, rfl⟩
  have hr := he.reach
  rw [hN] at hr ⊢
  have hwr := wf_u8 hwh
  have hbr := wf_u8 hby
  have e0 := he.at_
  have t0 := ht.1
  have m0 := ht.2
  have bb0 := Below.refl w.heap.size w
  obtain ⟨w0, hw0⟩ : ∃ W, w = W := ⟨_, rfl⟩
  have q1 := fun W h1 h2 => head39_any W h1 h2
  have q2 := fun W b hc => usableD_any party sec b 1 1 [N] rfl (by omega) (by rw [sum_one]; omega) W hc
  rw [sum_one] at q2
  have q3 := fun W => public_all sec W
  have hUse := @use_parts party sec N
  have hEp := fun (hp : ptyB party = true) (hs : wthB sec 1 = true) => @chkE_pub party sec hp hs
  obtain ⟨pub, hpub⟩ : ∃ p, pubV sec = p := ⟨_, rfl⟩
  rw [hpub] at q3 hEp
  have hpf := wf_i64 hp0
  rw [hw0] at e0 t0 m0 bb0 ⊢
  generalize hUB : useB party sec N = UB at *
  have ⟨H_hpf, H_hUB, H_hw0, H_hpub, H_q1, H_q2, H_q3, H_hUse⟩ := hid8 hpf hUB hw0 hpub q1 q2 q3 hUse; clear hpf hUB hw0 hpub q1 q2 q3 hUse; have ⟨H_hEp, H_he, H_ht, H_hN, H_e0, H_t0, H_m0, H_bb0⟩ := hid8 hEp he ht hN e0 t0 m0 bb0; clear hEp he ht hN e0 t0 m0 bb0; have ⟨H_hp0, H_hwh, H_hby, H_hi0, H_hz0, H_hz1, H_hz2, H_hi1⟩ := hid8 hp0 hwh hby hi0 hz0 hz1 hz2 hi1; clear hp0 hwh hby hi0 hz0 hz1 hz2 hi1; have ⟨H_hy0, H_hy1, H_hy2⟩ := hid3 hy0 hy1 hy2; clear hy0 hy1 hy2
  go_enter Tryd.func4, Tryd.ntmps4
  go_wp2_with fail
  (with_reducible refine (H_q1.out _ ?_ ?_).mono ?_)
  · exact H_t0.out.below (show Below w0.heap.size w0 _ from belt)
  · exact H_m0.out.below (show Below w0.heap.size w0 _ from belt)
  rintro e w1 ⟨rfl, b1⟩
  have c1 : Below w0.heap.size w0 w1 := Below.trans belt (b1.mono omh)
  have s1 := c1.size
  have bb1 := H_bb0.out.trans (c1.mono H_bb0.out.size)
  have e1 := H_e0.out.below c1
  have t1 := H_t0.out.below c1
  have m1 := H_m0.out.below c1
  have ⟨H_b1, H_c1, H_bb1, H_e1, H_t1, H_m1⟩ := hid6 b1 c1 bb1 e1 t1 m1; clear b1 c1 bb1 e1 t1 m1
  go_wp2_with fail
  (with_reducible refine (H_q2.out _ _ ?_).mono ?_)
  · exact use_one rfl
  rintro e w2 ⟨rfl, b2⟩
  have c2 : Below w1.heap.size w1 w2 := Below.trans belt (b2.mono omh)
  have s2 := c2.size
  have bb2 := H_bb1.out.trans (c2.mono H_bb1.out.size)
  have e2 := H_e1.out.below c2
  have t2 := H_t1.out.below c2
  have m2 := H_m1.out.below c2
  have ⟨H_b2, H_c2, H_bb2, H_e2, H_t2, H_m2⟩ := hid6 b2 c2 bb2 e2 t2 m2; clear b2 c2 bb2 e2 t2 m2
  cases UB with
  | false =>
    go_wp2_with fail
    go_ret
    exact ⟨rfl, H_bb2.out⟩
  | true =>
    by_cases hN0 : N = 0
    · have g0 : ((N : Int) == 0) = true := by rw [hN0]; rfl
      have H_hN0 := Lib.hid hN0; clear hN0
      go_wp2_with fail
      go_ret
      exact ⟨rfl, H_bb2.out⟩
    have g0 : ((N : Int) == 0) = false := by rw [beq_eq_false_iff_ne]; omega
    have gn : ((N : Int) != (N : Int)) = false := by simp
    obtain ⟨k, hNk⟩ : ∃ k, N = k + 1 := ⟨N - 1, by omega⟩
    obtain ⟨hp, hs, hN20⟩ := H_hUse.out rfl
    have e0 : errV (wthB sec 1) = 0 := by rw [hs]; rfl
    have q3 := H_q3.out
    rw [e0] at q3
    have q4 := fun W h1 h2 h3 => jgrown0_any party E ce N l sec H_hN.out (by omega) hp hs W h1 h2 h3
    unfold GrownAt at q4
    have eC := H_hEp.out hp hs
    have ⟨H_hp, H_hs, H_e0, H_q3, H_q4, H_eC, H_hNk⟩ := hid7 hp hs e0 q3 q4 eC hNk; clear hp hs e0 q3 q4 eC hNk
    go_wp2_with fail
    (with_reducible refine (H_q3.out _).mono ?_)
    rintro e w3 ⟨rfl, b3⟩
    have c3 : Below w2.heap.size w2 w3 := Below.trans belt (b3.mono omh)
    have s3 := c3.size
    have bb3 := H_bb2.out.trans (c3.mono H_bb2.out.size)
    have e3 := H_e2.out.below c3
    have t3 := H_t2.out.below c3
    have m3 := H_m2.out.below c3
    have ⟨H_b3, H_c3, H_bb3, H_e3, H_t3, H_m3⟩ := hid6 b3 c3 bb3 e3 t3 m3; clear b3 c3 bb3 e3 t3 m3
    go_wp2_with fail
    (with_reducible refine (H_q4.out _ H_e3.out H_t3.out H_m3.out).mono ?_)
    rintro e w4 ⟨X, c, ms, H, rfl, x4, b4, _, ln4, hj4, cp1, cp2⟩
    rw [List.length_nil, Nat.zero_add] at ln4
    rw [ln4] at cp1 ⊢
    have bb4 := H_bb3.out.trans (b4.mono H_bb3.out.size)
    have t4 := H_t3.out.below b4
    have m4 := H_m3.out.below b4
    have hNk := H_hNk.out
    obtain ⟨z, hz⟩ : ∃ z, ms[k]? = some z := ⟨_, List.getElem?_eq_getElem (by omega)⟩
    have hzm := hj4.msg z (List.mem_of_getElem? hz)
    have hcn := cnt_pos (msgB_iff.1 hzm).2.2.2.1
    have hzl := (msgB_iff.1 hzm).2.2.2.2.1
    have hz7 := msgB_len hzm
    have qL := fun W h1 h2 h3 => jcheck_any X c k (ms.take k) H party pub (by rw [List.length_take, ln4]; omega) (by omega) hj4.fit H_hpf.out W h1 h2 h3
    rw [H_eC.out, last_less hj4 H_hp.out (ln4.trans hNk)] at qL
    have qT := fun j (hj : j < z.a.length) A2 c2 A' c' W h1 h2 h3 => jcheck_any A' c' N (ms.set k (z.new A2 c2 (z.a.set j (turnI (z.a.getD j 0) by_)))) H party pub (by rw [List.length_set, ln4]) (by omega) hj4.fit H_hpf.out W h1 h2 h3
    have qV := fun j (hj : j < z.a.length) A2 c2 => last_turn (pub := pub) hj4 (ln4.trans hNk) hz hj hbr.1 A2 c2
    rw [H_eC.out] at qT
    have hva : ∀ j, j < z.a.length → 0 ≤ z.a.getD j 0 ∧ z.a.getD j 0 ≤ 1000000000 := fun j hj => inJ_iff.1 ((msgB_iff.1 hzm).2.2.2.2.2 _ (by rw [List.getD_eq_getElem?_getD, List.getElem?_eq_getElem hj]; exact List.getElem_mem hj))
    obtain ⟨an, han⟩ : ∃ n, z.a.length = n := ⟨_, rfl⟩
    rw [han] at hzl hz7 qT qV hva
    have an1 : 1 ≤ an := by omega
    generalize ha1 : H.p = a1 at *
    generalize ha2 : H.n = a2 at *
    generalize ha3 : H.c = a3 at *
    generalize ha4 : H.e = a4 at *
    generalize ha5 : H.s = a5 at *
    have wk : IntKind.i64.wrap ((N : Int) - 1) = (k : Int) := by rw [IntWalk.i64_in _ (by omega)]; omega
    have wk2 : (N : Int) - 1 = (k : Int) := by omega
    have gk : (k : Int) ≤ (c : Int) := by omega
    have gkN : (k : Int) < (N : Int) := by omega
    have k20 : k ≤ 19 := by omega
    clear hNk hcn hzl
    have ⟨H_x4, H_b4, H_ln4, H_hj4, H_cp1, H_cp2, H_bb4, H_t4⟩ := hid8 x4 b4 ln4 hj4 cp1 cp2 bb4 t4; clear x4 b4 ln4 hj4 cp1 cp2 bb4 t4; have ⟨H_m4, H_hz, H_hzm, H_qL, H_qT, H_qV, H_hva, H_han⟩ := hid8 m4 hz hzm qL qT qV hva han; clear m4 hz hzm qL qT qV hva han; have ⟨H_ha1, H_ha2, H_ha3, H_ha4, H_ha5⟩ := hid5 ha1 ha2 ha3 ha4 ha5; clear ha1 ha2 ha3 ha4 ha5
    go_upto_region 6 with (fail)
    obtain ⟨w5, hw5⟩ : ∃ W, w4.alloc (.cells #[.slice X N c, .int .i64 a1, .int .i64 a2, .int .u64 a3, .int .i64 a4, .int .i64 a5] 35) = W := ⟨_, rfl⟩
    rw [hw5]
    have d5 : Below w4.heap.size w4 w5 := by rw [← hw5]; exact (Below.refl _ _).alloc (Nat.le_refl _) _
    have k5 : Blk w5 w4.heap.size #[.slice X N c, .int .i64 a1, .int .i64 a2, .int .u64 a3, .int .i64 a4, .int .i64 a5] := by rw [← hw5]; exact blk_new rfl
    have bb5 := H_bb4.out.trans (d5.mono H_bb4.out.size)
    have x5 := H_x4.out.below d5
    have t5 := H_t4.out.below d5
    have m5 := H_m4.out.below d5
    have s5 : w4.heap.size < w5.heap.size := by rw [← hw5]; simp
    have ⟨H_hw5, H_d5, H_k5, H_bb5, H_x5, H_t5, H_m5⟩ := hid7 hw5 d5 k5 bb5 x5 t5 m5; clear hw5 d5 k5 bb5 x5 t5 m5
    have u0 := (H_k5.out 0 _ rfl).at
    have u1 := (H_k5.out 1 _ rfl).at
    have u2 := (H_k5.out 2 _ rfl).at
    have u3 := (H_k5.out 3 _ rfl).at
    have u4 := (H_k5.out 4 _ rfl).at
    have u5 := (H_k5.out 5 _ rfl).at
    go_upto_region 8 with (fail)
    go_cut [16, 17] from 64 to 65 (fun p1 q1 wx => ∃ g h, p1 = .pointer (some ⟨g, 0, none⟩) ∧ q1 = .pointer (some ⟨h, 0, none⟩) ∧ Two w5 wx g h #[.slice X N c, .int .i64 a1, .int .i64 a2, .int .u64 a3, .int .i64 a4, .int .i64 a5] #[.slice X N c, .int .i64 a1, .int .i64 a2, .int .u64 a3, .int .i64 a4, .int .i64 a5])
    case first =>
      go_region
      all_goals
        go_wp2_with fail
        go_meet
        case rel => first | exact ⟨_, _, rfl, rfl, (two_nn (Below.refl _ _)).drew⟩ | exact ⟨_, _, rfl, rfl, (two_nn' (Below.refl _ _)).drew⟩
    case rest =>
    obtain ⟨g, h, rfl, rfl, ⟨lg, lh, hgh⟩, o6, r6, c6⟩ := hcut
    obtain ⟨w6, hw6⟩ : ∃ W, wc = W := ⟨_, rfl⟩
    rw [hw6] at o6 r6 c6 ⊢
    have k6 := H_k5.out.below c6
    have mg := (o6 0 _ rfl).lt
    have mh := (r6 0 _ rfl).lt
    have kg : g ≠ w4.heap.size := by omega
    have kh : h ≠ w4.heap.size := by omega
    have hg : h ≠ g := fun e => hgh e.symm
    clear u0 u1 u2 u3 u4 u5
    have ⟨H_hw6, H_c6, H_k6, H_o6, H_r6⟩ := hid5 hw6 c6 k6 o6 r6; clear hw6 c6 k6 o6 r6
    have u0 := (H_k6.out 0 _ rfl).at
    have u1 := (H_k6.out 1 _ rfl).at
    have u2 := (H_k6.out 2 _ rfl).at
    have u3 := (H_k6.out 3 _ rfl).at
    have u4 := (H_k6.out 4 _ rfl).at
    have u5 := (H_k6.out 5 _ rfl).at
    have v0 := (H_o6.out 0 _ rfl).at
    have v1 := (H_o6.out 1 _ rfl).at
    have v2 := (H_o6.out 2 _ rfl).at
    have v3 := (H_o6.out 3 _ rfl).at
    have v4 := (H_o6.out 4 _ rfl).at
    have v5 := (H_o6.out 5 _ rfl).at
    have f0 := (H_o6.out 0 _ rfl).free
    have f1 := (H_o6.out 1 _ rfl).free
    have f2 := (H_o6.out 2 _ rfl).free
    have f3 := (H_o6.out 3 _ rfl).free
    have f4 := (H_o6.out 4 _ rfl).free
    have f5 := (H_o6.out 5 _ rfl).free
    go_upto_region 10 with (fail)
    obtain ⟨w7, hw7⟩ : ∃ W, w6.setCell ⟨g, 0, none⟩ (.slice X k c) = W := ⟨_, rfl⟩
    rw [hw7]
    have D7 : Below w5.heap.size w5 w7 := by rw [← hw7]; exact below_set H_c6.out lg 0 _
    have o7 := H_o6.out.set 0 (.slice X k c) (by simp)
    simp only [List.setIfInBounds_toArray, List.set_cons_zero] at o7
    rw [hw7] at o7
    have r7 := H_r6.out.far (o := 0) hgh (.slice X k c)
    rw [hw7] at r7
    have k7 := H_k5.out.below D7
    have x7 := H_x5.out.below D7
    have t7 := H_t5.out.below D7
    have m7 := H_m5.out.below D7
    have bb7 := H_bb5.out.trans (D7.mono H_bb5.out.size)
    have sz7 : w6.heap.size = w7.heap.size := by rw [← hw7]; simp
    have hmi : ∀ m ∈ ms, ∀ b' off, m.a ≠ [] → m.A = some ⟨b', off, none⟩ → b' < w4.heap.size := fun m hm b' off h1 h2 => by
      obtain ⟨g', e, hg'⟩ := (H_x4.out.all m hm).2.2.lt (List.length_pos_iff.2 h1)
      rw [h2] at e
      have e : b' = g' := Option.some.inj e
      omega
    clear u0 u1 u2 u3 u4 u5
    clear v0 v1 v2 v3 v4 v5
    clear f0 f1 f2 f3 f4 f5
    have ⟨H_hw7, H_D7, H_o7, H_r7, H_k7, H_x7, H_t7, H_m7⟩ := hid8 hw7 D7 o7 r7 k7 x7 t7 m7; clear hw7 D7 o7 r7 k7 x7 t7 m7; have ⟨H_bb7, H_hmi⟩ := hid2 bb7 hmi; clear bb7 hmi
    have v0 := (H_o7.out 0 _ rfl).at
    have v1 := (H_o7.out 1 _ rfl).at
    have v2 := (H_o7.out 2 _ rfl).at
    have v3 := (H_o7.out 3 _ rfl).at
    have v4 := (H_o7.out 4 _ rfl).at
    have v5 := (H_o7.out 5 _ rfl).at
    go_wp2_with fail
    (with_reducible refine (H_qL.out _ ?_ ?_ ?_).mono ?_)
    · exact (H_x7.out.below (show Below w7.heap.size w7 _ from belt)).take k
    · exact H_t7.out.below (show Below w7.heap.size w7 _ from belt)
    · exact H_m7.out.below (show Below w7.heap.size w7 _ from belt)
    rintro e w8 ⟨rfl, b8⟩
    have c8 : Below w7.heap.size w7 w8 := Below.trans belt (b8.mono omh)
    have s8 := c8.size
    have bb8 := H_bb7.out.trans (c8.mono H_bb7.out.size)
    have x8 := H_x7.out.below c8
    have r8 := H_r7.out.below c8
    have t8 := H_t7.out.below c8
    have m8 := H_m7.out.below c8
    have k8 := H_k7.out.below c8
    have ⟨H_b8, H_c8, H_bb8, H_x8, H_r8, H_t8, H_m8, H_k8⟩ := hid8 b8 c8 bb8 x8 r8 t8 m8 k8; clear b8 c8 bb8 x8 r8 t8 m8 k8
    clear v0 v1 v2 v3 v4 v5
    have D8 := H_D7.out.trans (H_c8.out.mono H_D7.out.size)
    have s8 := D8.size
    obtain ⟨w81, hw81⟩ : ∃ W, w8.alloc (.cells #[] 47) = W := ⟨_, rfl⟩
    have b81 : Below w8.heap.size w8 w81 := by rw [← hw81]; exact (Below.refl _ _).alloc (Nat.le_refl _) _
    have o81 : OwnM w81 w8.heap.size (some ⟨w8.heap.size, 0, none⟩) 0 [] := ⟨rfl, .inr ⟨w8.heap.size, 0, #[], rfl, Nat.le_refl _, by rw [← hw81]; exact heap_alloc_new w8 _, Nat.le_refl _, Nat.zero_le _, rfl, rfl⟩⟩
    have x81 := H_x8.out.below b81
    have s81 := b81.size
    have lk8 := (H_k8.out 0 _ rfl).lt
    have ⟨H_D8, H_hw81, H_b81, H_o81, H_x81⟩ := hid5 D8 hw81 b81 o81 x81; clear D8 hw81 b81 o81 x81
    have u0 := (H_k8.out 0 _ rfl).at
    have u1 := (H_k8.out 1 _ rfl).at
    have u2 := (H_k8.out 2 _ rfl).at
    have u3 := (H_k8.out 3 _ rfl).at
    have u4 := (H_k8.out 4 _ rfl).at
    have u5 := (H_k8.out 5 _ rfl).at
    go_wp2_with (at_builtin; rw [H_hw81.out]; refine wp_app_gen (At := MsAt) _ rfl (.tmp 80) (.tmp 82) _ rfl i0 _ 56 Tryd.underlying28 H_hi0.out H_hz0.out H_hz1.out H_hz2.out rfl (by decide) Msg.cells_len Msg.cells_one (fun _ _ h => h.1) 0 rfl rfl H_o81.out X c N ms H_ln4.out rfl H_x81.out (by unfold maxLen; omega) (by omega) s81 ?_)
    intro A' c' w9 own9 g9 _
    have c9 : Below w8.heap.size w8 w9 := H_b81.out.grown g9 s81 (fun g hg => by cases hg; exact Nat.le_refl _)
    have x9 := H_x8.out.below c9
    have r9 := H_r8.out.below c9
    have M9 := OwnM.msgs own9 (fun m hm => x9.all m hm)
    have cap9 := OwnRows.cap own9
    rw [H_ln4.out] at cap9
    obtain ⟨gb, rfl, hb1, hb2, hbf⟩ := OwnM.block own9 (by rw [H_ln4.out]; omega)
    have cl9 : Cel w9 gb (k * 5 + 4) (.slice z.A an z.c) := by
      obtain ⟨b', off', e, _, _, _, _, _, _, z4⟩ := M9.at H_hz.out
      injection e with e; injection e with e1 e2
      subst e1 e2
      rw [H_han.out, Nat.zero_add] at z4
      exact ⟨hb2, z4, hbf _⟩
    have D9 := H_D8.out.trans (c9.mono H_D8.out.size)
    have s9 := c9.size
    have hbh : h ≠ gb := by omega
    clear u0 u1 u2 u3 u4 u5
    have ⟨H_own9, H_g9, H_c9, H_x9, H_r9, H_M9, H_cap9, H_hbf⟩ := hid8 own9 g9 c9 x9 r9 M9 cap9 hbf; clear own9 g9 c9 x9 r9 M9 cap9 hbf; have ⟨H_cl9, H_D9⟩ := hid2 cl9 D9; clear cl9 D9
    have u0 := (H_r9.out 0 _ rfl).at
    have u1 := (H_r9.out 1 _ rfl).at
    have u2 := (H_r9.out 2 _ rfl).at
    have u3 := (H_r9.out 3 _ rfl).at
    have u4 := (H_r9.out 4 _ rfl).at
    have u5 := (H_r9.out 5 _ rfl).at
    have f0 := (H_r9.out 0 _ rfl).free
    have f1 := (H_r9.out 1 _ rfl).free
    have f2 := (H_r9.out 2 _ rfl).free
    have f3 := (H_r9.out 3 _ rfl).free
    have f4 := (H_r9.out 4 _ rfl).free
    have f5 := (H_r9.out 5 _ rfl).free
    have lr9 := (H_r9.out 0 _ rfl).lt
    go_upto_region 12 with (fail)
    obtain ⟨w10, hw10⟩ : ∃ W, w9.setCell ⟨h, 0, none⟩ (.slice (some ⟨gb, 0, none⟩) N c') = W := ⟨_, rfl⟩
    rw [hw10]
    have D10 : Below w5.heap.size w5 w10 := by rw [← hw10]; exact below_set H_D9.out lh 0 _
    have r10 := H_r9.out.set 0 (.slice (some ⟨gb, 0, none⟩) N c') (by simp)
    simp only [List.setIfInBounds_toArray, List.set_cons_zero] at r10
    rw [hw10] at r10
    have cl10 := H_cl9.out.far (p := 0) hbh (.slice (some ⟨gb, 0, none⟩) N c')
    rw [hw10] at cl10
    have x10 := H_x5.out.below D10
    have M10 : Msgs w10 (some ⟨gb, 0, none⟩) ms := by
      have := putL_msgs (b := h) (fun b' off _ e => by injection e with e; injection e with e1 _; omega) (fun m hm b' off h1 h2 => by have := H_hmi.out m hm b' off h1 h2; omega) [.slice (some ⟨gb, 0, none⟩) N c'] w9 0 H_M9.out
      rw [← hw10]; exact this
    have sz10 : w9.heap.size = w10.heap.size := by rw [← hw10]; simp
    have zi10 := (x10.all z (List.mem_of_getElem? H_hz.out)).2.2
    clear u0 u1 u2 u3 u4 u5
    clear f0 f1 f2 f3 f4 f5
    have lc10 := cl10.lt
    have ct10 := cl10.at
    have ⟨H_hw10, H_D10, H_r10, H_cl10, H_x10, H_M10, H_zi10⟩ := hid7 hw10 D10 r10 cl10 x10 M10 zi10; clear hw10 D10 r10 cl10 x10 M10 zi10
    have u0 := (H_r10.out 0 _ rfl).at
    have u1 := (H_r10.out 1 _ rfl).at
    have u2 := (H_r10.out 2 _ rfl).at
    have u3 := (H_r10.out 3 _ rfl).at
    have u4 := (H_r10.out 4 _ rfl).at
    have u5 := (H_r10.out 5 _ rfl).at
    have lr10 := (H_r10.out 0 _ rfl).lt
    go_upto_region 13 with (fail)
    go_wp2_with (at_builtin; refine wp_app_at _ rfl (.tmp 92) (.tmp 96) _ rfl w10.heap.size 3 i1 _ 8 Tryd.underlying45 H_hi1.out H_hy0.out H_hy1.out H_hy2.out rfl .i64 (some ⟨w10.heap.size, 0, none⟩) 0 0 [] rfl rfl (own_lit (w := w10) [] (Nat.le_refl _) (by simp) _ rfl) z.A z.c an z.a H_han.out rfl (H_zi10.out.below ((Below.refl _ _).alloc (Nat.le_refl _) _)) (by omega) (by omega) (by simp) ?_)
    intro A2 c2 w12 own12 g12 _
    change OwnInts w12 _ _ _ _ _ z.a at own12
    have c12 : Below w10.heap.size w10 w12 := (own_lit (w := w10) (k := .i64) [] (Nat.le_refl _) (by simp) _ rfl).grow ((Below.refl _ _).alloc (Nat.le_refl _) _) g12
    have cap12 := own12.cap
    have i12 := own12.ints
    obtain ⟨g2, rfl, hg1, hg2, hfz⟩ := own12.block (by rw [H_han.out]; omega)
    have cl12 := H_cl10.out.below c12
    have r12 := H_r10.out.below c12
    have M12 := H_M10.out.below c12
    have D12 := H_D10.out.trans (c12.mono H_D10.out.size)
    have hbg : gb ≠ g2 := by omega
    have hgh2 : g2 ≠ h := by omega
    clear u0 u1 u2 u3 u4 u5
    clear ct10
    have ct12 := cl12.at
    have cf12 := cl12.free
    have lc12 := cl12.lt
    have ⟨H_own12, H_g12, H_c12, H_cap12, H_i12, H_hfz, H_cl12, H_r12⟩ := hid8 own12 g12 c12 cap12 i12 hfz cl12 r12; clear own12 g12 c12 cap12 i12 hfz cl12 r12; have ⟨H_M12, H_D12⟩ := hid2 M12 D12; clear M12 D12
    go_upto_region 14 with (fail)
    obtain ⟨w13, hw13⟩ : ∃ W, w12.setCell ⟨gb, k * 5 + 4, none⟩ (.slice (some ⟨g2, 0, none⟩) an c2) = W := ⟨_, rfl⟩
    rw [hw13]
    have D13 : Below w5.heap.size w5 w13 := by rw [← hw13]; exact below_set H_D12.out (by omega) _ _
    have r13 := H_r12.out.far (o := k * 5 + 4) (fun e => hbh e.symm) (.slice (some ⟨g2, 0, none⟩) an c2)
    have cl13 := H_cl12.out.same (.slice (some ⟨g2, 0, none⟩) an c2)
    have iv13 : ∀ j, j < an → Cel (w12.setCell ⟨gb, k * 5 + 4, none⟩ (.slice (some ⟨g2, 0, none⟩) an c2)) g2 j (.int .i64 (z.a.getD j 0)) := fun j hj => by
      obtain ⟨b', off', e, hlt, hc⟩ := H_i12.out j (by rw [H_han.out]; exact hj)
      injection e with e; injection e with e1 e2
      subst e1 e2
      rw [Nat.zero_add] at hc
      exact Cel.far ⟨hlt, hc, H_hfz.out j⟩ hbg _
    rw [hw13] at r13 cl13 iv13
    obtain ⟨p, hp'⟩ : ∃ p : Nat, which % (an : Int) = (p : Int) := ⟨(which % (an : Int)).toNat, (Int.toNat_of_nonneg (Int.emod_nonneg _ (by omega))).symm⟩
    have hpl : p < an := by have := Int.emod_lt_of_pos which (b := (an : Int)) (by omega); omega
    have iv := iv13 p hpl
    have hv := H_hva.out p hpl
    have sz13 : w12.heap.size = w13.heap.size := by rw [← hw13]; simp
    have eT := turn_sum (z.a.getD p 0) by_
    have qT2 := H_qT.out p hpl (some ⟨g2, 0, none⟩) c2 (some ⟨gb, 0, none⟩) c'
    rw [H_qV.out p hpl] at qT2
    have fin : ∀ y, turnI (z.a.getD p 0) by_ = y → Msgs (w13.setCell ⟨g2, p, none⟩ (.int .i64 y)) (some ⟨gb, 0, none⟩) (ms.set k (z.new (some ⟨g2, 0, none⟩) c2 (z.a.set p (turnI (z.a.getD p 0) by_)))) := fun y hy => by
      have := Msgs.turn (y := y) H_M12.out H_hz.out H_i12.out H_cap12.out (by rw [H_han.out]; exact hpl) (fun m hm b' off h1 h2 => by have := H_hmi.out m hm b' off h1 h2; omega) hbg
      rw [H_han.out, hw13] at this
      rw [hy]; exact this
    generalize z.a.set p (turnI (z.a.getD p 0) by_) = ZL at *
    generalize z.a.getD p 0 = v at *
    obtain ⟨v0, v1⟩ := hv
    have ga : ((an : Int) == 0) = false := by rw [beq_eq_false_iff_ne]; omega
    have gan : (an : Int) ≠ 0 := by omega
    have gp : (p : Int) < (an : Int) := by omega
    have tm : which.tmod (an : Int) = (p : Int) := by rw [Int.tmod_eq_emod_of_nonneg hwr.1, hp']
    have tb : by_.tmod 9 = by_ % 9 := Int.tmod_eq_emod_of_nonneg hbr.1
    have tv : v.tmod 10 = v % 10 := Int.tmod_eq_emod_of_nonneg v0
    have tw : (v % 10 + 1 + by_ % 9).tmod 10 = (v % 10 + 1 + by_ % 9) % 10 := Int.tmod_eq_emod_of_nonneg (by omega)
    have by0 := hbr.1
    have by1 := hbr.2
    have wh0 := hwr.1
    have wh1 := hwr.2
    have ct13 := cl13.at
    have lc13 := cl13.lt
    have cv13 := iv.at
    have cu13 := iv.free
    have lv13 := iv.lt
    clear ct12 cf12 lc12 hwr hbr
    have ⟨H_hw13, H_D13, H_r13, H_cl13, H_iv13, H_iv, H_hp', H_qT2⟩ := hid8 hw13 D13 r13 cl13 iv13 iv hp' qT2; clear hw13 D13 r13 cl13 iv13 iv hp' qT2; have ⟨H_fin, H_eT⟩ := hid2 fin eT; clear fin eT
    go_upto_region 17 with (fail)
    go_region
    obtain ⟨w14, hw14⟩ : ∃ W, (w13.setCell ⟨g2, p, none⟩ (.int .i64 (v + ((v % 10 + 1 + by_ % 9) % 10 - v % 10)))).drew = W := ⟨_, rfl⟩
    rw [hw14]
    have M14 : Msgs w14 (some ⟨gb, 0, none⟩) (ms.set k (z.new (some ⟨g2, 0, none⟩) c2 ZL)) := by
      rw [← hw14]; exact (H_fin.out _ H_eT.out.symm).below (Below.refl _ _).drew
    have D14 : Below w5.heap.size w5 w14 := by rw [← hw14]; exact (below_set H_D13.out (by omega) _ _).drew
    have r14 : Blk w14 h #[.slice (some ⟨gb, 0, none⟩) N c', .int .i64 a1, .int .i64 a2, .int .u64 a3, .int .i64 a4, .int .i64 a5] := by
      rw [← hw14]; exact (H_r13.out.far hgh2 _).below (Below.refl _ _).drew
    have bb14 := H_bb5.out.trans (D14.mono H_bb5.out.size)
    have t14 := H_t5.out.below D14
    have m14 := H_m5.out.below D14
    clear ct13 cv13 cu13
    have ⟨H_hw14, H_M14, H_D14, H_r14, H_bb14, H_t14, H_m14⟩ := hid7 hw14 M14 D14 r14 bb14 t14 m14; clear hw14 M14 D14 r14 bb14 t14 m14
    have u0 := (H_r14.out 0 _ rfl).at
    have u1 := (H_r14.out 1 _ rfl).at
    have u2 := (H_r14.out 2 _ rfl).at
    have u3 := (H_r14.out 3 _ rfl).at
    have u4 := (H_r14.out 4 _ rfl).at
    have u5 := (H_r14.out 5 _ rfl).at
    have lr14 := (H_r14.out 0 _ rfl).lt
    go_wp2_with fail
    (with_reducible refine (H_qT2.out _ ?_ ?_ ?_).mono ?_)
    · exact H_M14.out.below (show Below w14.heap.size w14 _ from belt)
    · exact H_t14.out.below (show Below w14.heap.size w14 _ from belt)
    · exact H_m14.out.below (show Below w14.heap.size w14 _ from belt)
    rintro e w15 ⟨rfl, b15⟩
    have c15 : Below w14.heap.size w14 w15 := Below.trans belt (b15.mono omh)
    have s15 := c15.size
    have bb15 := H_bb14.out.trans (c15.mono H_bb14.out.size)
    have ⟨H_b15, H_c15, H_bb15⟩ := hid3 b15 c15 bb15; clear b15 c15 bb15
    clear u0 u1 u2 u3 u4 u5
    go_wp2_with fail
    go_ret
    exact ⟨rfl, H_bb15.out⟩
end Go.Proofs.YtmbmejclnagffaaDoor
