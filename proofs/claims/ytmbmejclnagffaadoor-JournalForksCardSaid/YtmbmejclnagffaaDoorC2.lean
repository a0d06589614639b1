/- Grown journals against one another. -/
import Derived.Test.YtmbmejclnagffaaDoorM1
import Derived.Test.YtmbmejclnagffaaDoorM2
import Derived.Test.YtmbmejclnagffaaDoorM3
import Derived.Test.YtmbmejclnagffaaDoorM4
import Derived.Test.YtmbmejclnagffaaDoorM5
import Derived.Test.YtmbmejclnagffaaDoorM6
import Derived.Test.YtmbmejclnagffaaDoorM7
import Derived.Test.YtmbmejclnagffaaDoorM8
import Derived.Test.YtmbmejclnagffaaDoorM9
import Derived.Test.YtmbmejclnagffaaDoorM10
import Derived.Test.YtmbmejclnagffaaDoorM11
import Derived.Test.YtmbmejclnagffaaDoorM12
import Derived.Test.YtmbmejclnagffaaDoorM13
import Derived.Test.YtmbmejclnagffaaDoorM14
import Derived.Test.YtmbmejclnagffaaDoorM15
import Derived.Test.YtmbmejclnagffaaDoorM16
import Derived.Test.YtmbmejclnagffaaDoorM17
import Derived.Test.YtmbmejclnagffaaDoorM18
import Derived.Test.YtmbmejclnagffaaDoorM19
import Derived.Test.YtmbmejclnagffaaDoorM20
import Derived.Test.YtmbmejclnagffaaDoorM21
import Derived.Test.YtmbmejclnagffaaDoorM22
import Derived.Test.YtmbmejclnagffaaDoorM23
import Derived.Test.YtmbmejclnagffaaDoorM24
import Derived.Test.YtmbmejclnagffaaDoorM25
import Derived.Test.YtmbmejclnagffaaDoorM26
import Derived.Test.YtmbmejclnagffaaDoorM27
import Derived.Test.YtmbmejclnagffaaDoorM28
import Derived.Test.YtmbmejclnagffaaDoorM29
import Derived.Test.YtmbmejclnagffaaDoorM30
import Derived.Test.YtmbmejclnagffaaDoorM31
import Derived.Test.YtmbmejclnagffaaDoorM32
import Derived.Test.YtmbmejclnagffaaDoorM33
import Derived.Test.YtmbmejclnagffaaDoorM34
import Derived.Test.YtmbmejclnagffaaDoorM35
import Derived.Test.YtmbmejclnagffaaDoorM36
import Derived.Test.YtmbmejclnagffaaDoorM37
import Derived.Test.YtmbmejclnagffaaDoorM38
import Derived.Test.YtmbmejclnagffaaDoorM39
import Derived.Test.YtmbmejclnagffaaDoorM40
import Derived.Test.YtmbmejclnagffaaDoorM41
import Derived.Test.YtmbmejclnagffaaDoorM42
import Derived.Test.YtmbmejclnagffaaDoorM43
import Derived.Test.YtmbmejclnagffaaDoorM44
import Derived.Test.YtmbmejclnagffaaDoorM45
import Derived.Test.YtmbmejclnagffaaDoorM46
import Derived.Test.YtmbmejclnagffaaDoorM47
import Derived.Test.YtmbmejclnagffaaDoorM48
import Derived.Test.YtmbmejclnagffaaDoorC1
set_option linter.unusedSimpArgs false
set_option linter.unusedVariables false
set_option maxRecDepth 100000
namespace Go.Proofs.YtmbmejclnagffaaDoor
open Go.RowKit
theorem Msgs.take {w : World} {A : Option Addr} {l : List Msg} (h : Msgs w A l) (n : Nat) : Msgs w A (l.take n) := by
  have e := List.take_append_drop n l
  rw [← e] at h
  exact h.pre
theorem sgd_len {ms : List Msg} {h : Hd} {party pub : Int} (hs : sgdB ms h party pub = true) : ∀ m ∈ ms, m.a.length ≤ 100000 := fun m hm => by
  rw [sgdB, Bool.and_eq_true] at hs
  have := msgB_len (okL_all (frm_ok hs.1).2 m hm)
  omega
theorem sgd_few {ms : List Msg} {h : Hd} {party pub : Int} (hs : sgdB ms h party pub = true) : ms.length ≤ 5000 := by
  rw [sgdB, Bool.and_eq_true] at hs
  exact (frm_ok hs.1).1
set_option maxRecDepth 100000 in
set_option maxHeartbeats 16000000 in
theorem jforks_any (A : Option Addr) (cp n : Nat) (ms : List Msg) (h : Hd) (B : Option Addr) (cq k : Nat) (ns : List Msg) (g : Hd) (party pub : Int) (hln : ms.length = n) (hlk : ns.length = k) (hn : n ≤ 9223372036854775807) (hk : k ≤ 9223372036854775807) (hnc : n ≤ cp) (hkc : k ≤ cq) (hf : HFit h) (hg : HFit g) (hp : -9223372036854775808 ≤ party ∧ party ≤ 9223372036854775807) (w : World) (hl : Msgs w A ms) (hm : Msgs w B ns) (ht : Tab w) (hc : Cnt w) :
    Calls Tryd.prog 24 #[.agg #[.slice A n cp, .int .i64 h.p, .int .i64 h.n, .int .u64 h.c, .int .i64 h.e, .int .i64 h.s], .agg #[.slice B k cq, .int .i64 g.p, .int .i64 g.n, .int .u64 g.c, .int .i64 g.e, .int .i64 g.s], .int .i64 party, .int .i64 pub] w fun e w' => e = .returned (.tuple #[.bool (frkV ms h ns g party pub), .int .i64 (frkE ms h ns g party pub)]) ∧ Below w.heap.size w w' := by
  obtain ⟨w0, hw0⟩ : ∃ W, (w.alloc (.cells #[.slice A n cp, .int .i64 h.p, .int .i64 h.n, .int .u64 h.c, .int .i64 h.e, .int .i64 h.s] 35)).alloc (.cells #[.slice B k cq, .int .i64 g.p, .int .i64 g.n, .int .u64 g.c, .int .i64 g.e, .int .i64 g.s] 35) = W := ⟨_, rfl⟩
  have bb0 : Below w.heap.size w w0 := by rw [← hw0]; exact ((Below.refl _ _).alloc (Nat.le_refl _) _).alloc (by simp) _
  have k0 : Blk w0 w.heap.size #[.slice A n cp, .int .i64 h.p, .int .i64 h.n, .int .u64 h.c, .int .i64 h.e, .int .i64 h.s] := by rw [← hw0]; exact (blk_new rfl).alloc _
  have j0 : Blk w0 (w.heap.size + 1) #[.slice B k cq, .int .i64 g.p, .int .i64 g.n, .int .u64 g.c, .int .i64 g.e, .int .i64 g.s] := by rw [← hw0]; exact blk_new (by simp)
  have l0 := hl.below bb0
  have r0 := hm.below bb0
  have t0 := ht.below bb0
  have m0 := hc.below bb0
  have q1 := fun W => jparty_any party hp W
  have q2 := fun W => member_any pub W
  have q3 := fun W h1 h2 h3 => jsigned_any A cp n ms h party pub hln hn hf hp W h1 h2 h3
  have q4 := fun W h1 h2 h3 => jsigned_any B cq k ns g party pub hlk hk hg hp W h1 h2 h3
  have hE : frkE ms h ns g party pub = if ptyB party = true ∧ memZ pub = true then if sgdB ms h party pub = true ∧ sgdB ns g party pub = true then 0 else 9 else 1 := rfl
  have hV : frkV ms h ns g party pub = (decide (frkE ms h ns g party pub = 0) && difB ms ns) := rfl
  have hD : difB ms ns = !decide ((ms.take (min n k)).map msI = (ns.take (min n k)).map msI) := by rw [difB, hln, hlk]
  have sl1 := @sgd_len ms h party pub
  have sl2 := @sgd_len ns g party pub
  have sf1 := @sgd_few ms h party pub
  have q5 := fun (h1 : n ≤ 5000) (h2 : ∀ x ∈ ms, x.a.length ≤ 100000) (h3 : ∀ x ∈ ns, x.a.length ≤ 100000) W => efn_any A cp (min n k) (ms.take (min n k)) B cq (ns.take (min n k)) (by rw [List.length_take, hln]; omega) (by rw [List.length_take, hlk]; omega) (by omega) (fun x hx => h2 x (List.mem_of_mem_take hx)) (fun x hx => h3 x (List.mem_of_mem_take hx)) W
  obtain ⟨q, hq⟩ : ∃ q, min n k = q := ⟨_, rfl⟩
  have hmin : min (n : Int) (k : Int) = (q : Int) := by omega
  have hqn : q ≤ n ∧ q ≤ k := by omega
  rw [hq] at hD q5
  generalize hFV : frkV ms h ns g party pub = FV at *
  generalize hFE : frkE ms h ns g party pub = FE at *
  generalize difB ms ns = DF at *
  generalize decide ((ms.take q).map msI = (ns.take q).map msI) = EQ at *
  generalize h.p = p1 at *
  generalize h.n = p2 at *
  generalize h.c = p3 at *
  generalize h.e = p4 at *
  generalize h.s = p5 at *
  generalize g.p = g1 at *
  generalize g.n = g2 at *
  generalize g.c = g3 at *
  generalize g.e = g4 at *
  generalize g.s = g5 at *
  generalize hP : ptyB party = PB at *
  generalize hM : memZ pub = MB at *
  generalize hS1 : sgdB ms h party pub = S1 at *
  generalize hS2 : sgdB ns g party pub = S2 at *
  have eV : FV = (decide (FE = 0) && DF) := by first | exact hV | exact hFV.symm.trans hV | exact hV.symm ▸ rfl
  subst eV
  have ⟨H_hE, H_hV, H_hD, H_hFV, H_hFE, H_q1, H_q2, H_q3⟩ := hid8 hE hV hD hFV hFE q1 q2 q3; clear hE hV hD hFV hFE q1 q2 q3; have ⟨H_q4, H_q5, H_sl1, H_sl2, H_sf1, H_hw0, H_bb0, H_k0⟩ := hid8 q4 q5 sl1 sl2 sf1 hw0 bb0 k0; clear q4 q5 sl1 sl2 sf1 hw0 bb0 k0; have ⟨H_j0, H_l0, H_r0, H_t0, H_m0, H_hl, H_hm, H_ht⟩ := hid8 j0 l0 r0 t0 m0 hl hm ht; clear j0 l0 r0 t0 m0 hl hm ht; have ⟨H_hc, H_hln, H_hlk, H_hf, H_hg, H_hP, H_hM, H_hS1⟩ := hid8 hc hln hlk hf hg hP hM hS1; clear hc hln hlk hf hg hP hM hS1; have ⟨H_hS2, H_hq⟩ := hid2 hS2 hq; clear hS2 hq
  have hEx := H_hE.out
  cases PB with
  | false =>
    have e1 : FE = 1 := by rw [hEx]; rfl
    subst e1
    have H_hEx := Lib.hid hEx; clear hEx
    go_enter Tryd.func24, Tryd.ntmps24
    go_upto_region 1 with (fail)
    rw [H_hw0.out]
    go_wp2_with fail
    (with_reducible refine (H_q1.out _).mono ?_)
    rintro e w_ ⟨rfl, hw_⟩
    subst hw_
    go_wp2_with fail
    go_ret2
    exact ⟨rfl, H_bb0.out⟩
  | true =>
  cases MB with
  | false =>
    have e1 : FE = 1 := by rw [hEx]; rfl
    subst e1
    have H_hEx := Lib.hid hEx; clear hEx
    go_enter Tryd.func24, Tryd.ntmps24
    go_upto_region 1 with (fail)
    rw [H_hw0.out]
    go_wp2_with fail
    (with_reducible refine (H_q1.out _).mono ?_)
    rintro e w_ ⟨rfl, hw_⟩
    subst hw_
    go_wp2_with fail
    (with_reducible refine (H_q2.out _).mono ?_)
    rintro e w1 ⟨rfl, b1⟩
    have c1 : Below w0.heap.size w0 w1 := Below.trans belt (b1.mono omh)
    have s1 := c1.size
    have bb1 := H_bb0.out.trans (c1.mono H_bb0.out.size)
    have ⟨H_b1, H_c1, H_bb1⟩ := hid3 b1 c1 bb1; clear b1 c1 bb1
    go_wp2_with fail
    go_ret2
    exact ⟨rfl, H_bb1.out⟩
  | true =>
  cases S1 with
  | false =>
    have e1 : FE = 9 := by rw [hEx]; rfl
    subst e1
    have H_hEx := Lib.hid hEx; clear hEx
    go_enter Tryd.func24, Tryd.ntmps24
    go_upto_region 1 with (fail)
    rw [H_hw0.out]
    go_wp2_with fail
    (with_reducible refine (H_q1.out _).mono ?_)
    rintro e w_ ⟨rfl, hw_⟩
    subst hw_
    go_wp2_with fail
    (with_reducible refine (H_q2.out _).mono ?_)
    rintro e w1 ⟨rfl, b1⟩
    have c1 : Below w0.heap.size w0 w1 := Below.trans belt (b1.mono omh)
    have s1 := c1.size
    have bb1 := H_bb0.out.trans (c1.mono H_bb0.out.size)
    have k1 := H_k0.out.below c1
    have j1 := H_j0.out.below c1
    have l1 := H_l0.out.below c1
    have r1 := H_r0.out.below c1
    have t1 := H_t0.out.below c1
    have m1 := H_m0.out.below c1
    have ⟨H_b1, H_c1, H_bb1, H_k1, H_j1, H_l1, H_r1, H_t1⟩ := hid8 b1 c1 bb1 k1 j1 l1 r1 t1; clear b1 c1 bb1 k1 j1 l1 r1 t1; have H_m1 := Lib.hid m1; clear m1
    have u0 := (H_k1.out 0 _ rfl).at
    have u1 := (H_k1.out 1 _ rfl).at
    have u2 := (H_k1.out 2 _ rfl).at
    have u3 := (H_k1.out 3 _ rfl).at
    have u4 := (H_k1.out 4 _ rfl).at
    have u5 := (H_k1.out 5 _ rfl).at
    go_wp2_with fail
    (with_reducible refine (H_q3.out _ ?_ ?_ ?_).mono ?_)
    · exact H_l1.out.below (show Below w1.heap.size w1 _ from belt)
    · exact H_t1.out.below (show Below w1.heap.size w1 _ from belt)
    · exact H_m1.out.below (show Below w1.heap.size w1 _ from belt)
    rintro e w2 ⟨rfl, b2⟩
    have c2 : Below w1.heap.size w1 w2 := Below.trans belt (b2.mono omh)
    have s2 := c2.size
    have bb2 := H_bb1.out.trans (c2.mono H_bb1.out.size)
    have ⟨H_b2, H_c2, H_bb2⟩ := hid3 b2 c2 bb2; clear b2 c2 bb2
    go_wp2_with fail
    go_ret2
    exact ⟨rfl, H_bb2.out⟩
  | true =>
  cases S2 with
  | false =>
    have e1 : FE = 9 := by rw [hEx]; rfl
    subst e1
    have H_hEx := Lib.hid hEx; clear hEx
    go_enter Tryd.func24, Tryd.ntmps24
    go_upto_region 1 with (fail)
    rw [H_hw0.out]
    go_wp2_with fail
    (with_reducible refine (H_q1.out _).mono ?_)
    rintro e w_ ⟨rfl, hw_⟩
    subst hw_
    go_wp2_with fail
    (with_reducible refine (H_q2.out _).mono ?_)
    rintro e w1 ⟨rfl, b1⟩
    have c1 : Below w0.heap.size w0 w1 := Below.trans belt (b1.mono omh)
    have s1 := c1.size
    have bb1 := H_bb0.out.trans (c1.mono H_bb0.out.size)
    have k1 := H_k0.out.below c1
    have j1 := H_j0.out.below c1
    have l1 := H_l0.out.below c1
    have r1 := H_r0.out.below c1
    have t1 := H_t0.out.below c1
    have m1 := H_m0.out.below c1
    have ⟨H_b1, H_c1, H_bb1, H_k1, H_j1, H_l1, H_r1, H_t1⟩ := hid8 b1 c1 bb1 k1 j1 l1 r1 t1; clear b1 c1 bb1 k1 j1 l1 r1 t1; have H_m1 := Lib.hid m1; clear m1
    have u0 := (H_k1.out 0 _ rfl).at
    have u1 := (H_k1.out 1 _ rfl).at
    have u2 := (H_k1.out 2 _ rfl).at
    have u3 := (H_k1.out 3 _ rfl).at
    have u4 := (H_k1.out 4 _ rfl).at
    have u5 := (H_k1.out 5 _ rfl).at
    go_wp2_with fail
    (with_reducible refine (H_q3.out _ ?_ ?_ ?_).mono ?_)
    · exact H_l1.out.below (show Below w1.heap.size w1 _ from belt)
    · exact H_t1.out.below (show Below w1.heap.size w1 _ from belt)
    · exact H_m1.out.below (show Below w1.heap.size w1 _ from belt)
    rintro e w2 ⟨rfl, b2⟩
    have c2 : Below w1.heap.size w1 w2 := Below.trans belt (b2.mono omh)
    have s2 := c2.size
    have bb2 := H_bb1.out.trans (c2.mono H_bb1.out.size)
    have j2 := H_j1.out.below c2
    have r2 := H_r1.out.below c2
    have t2 := H_t1.out.below c2
    have m2 := H_m1.out.below c2
    have ⟨H_b2, H_c2, H_bb2, H_j2, H_r2, H_t2, H_m2⟩ := hid7 b2 c2 bb2 j2 r2 t2 m2; clear b2 c2 bb2 j2 r2 t2 m2
    clear u0 u1 u2 u3 u4 u5
    have u0 := (H_j2.out 0 _ rfl).at
    have u1 := (H_j2.out 1 _ rfl).at
    have u2 := (H_j2.out 2 _ rfl).at
    have u3 := (H_j2.out 3 _ rfl).at
    have u4 := (H_j2.out 4 _ rfl).at
    have u5 := (H_j2.out 5 _ rfl).at
    go_wp2_with fail
    (with_reducible refine (H_q4.out _ ?_ ?_ ?_).mono ?_)
    · exact H_r2.out.below (show Below w2.heap.size w2 _ from belt)
    · exact H_t2.out.below (show Below w2.heap.size w2 _ from belt)
    · exact H_m2.out.below (show Below w2.heap.size w2 _ from belt)
    rintro e w3 ⟨rfl, b3⟩
    have c3 : Below w2.heap.size w2 w3 := Below.trans belt (b3.mono omh)
    have s3 := c3.size
    have bb3 := H_bb2.out.trans (c3.mono H_bb2.out.size)
    have ⟨H_b3, H_c3, H_bb3⟩ := hid3 b3 c3 bb3; clear b3 c3 bb3
    go_wp2_with fail
    go_ret2
    exact ⟨rfl, H_bb3.out⟩
  | true =>
    have e1 : FE = 0 := by rw [hEx]; rfl
    subst e1
    have eD := H_hD.out
    have q6 := H_q5.out (by have := H_sf1.out rfl; rw [H_hln.out] at this; exact this) (H_sl1.out rfl) (H_sl2.out rfl)
    have qn1 : (q : Int) ≤ (cp : Int) := by omega
    have qn2 : (q : Int) ≤ (cq : Int) := by omega
    have z0 : (0 : Int) ≤ (q : Int) := by omega
    have fin : (decide ((0 : Int) = 0) && DF) = !EQ := by rw [eD]; simp
    rw [fin]
    have ⟨H_hEx, H_eD, H_q6, H_fin⟩ := hid4 hEx eD q6 fin; clear hEx eD q6 fin
    go_enter Tryd.func24, Tryd.ntmps24
    go_upto_region 1 with (fail)
    rw [H_hw0.out]
    go_wp2_with fail
    (with_reducible refine (H_q1.out _).mono ?_)
    rintro e w_ ⟨rfl, hw_⟩
    subst hw_
    go_wp2_with fail
    (with_reducible refine (H_q2.out _).mono ?_)
    rintro e w1 ⟨rfl, b1⟩
    have c1 : Below w0.heap.size w0 w1 := Below.trans belt (b1.mono omh)
    have s1 := c1.size
    have bb1 := H_bb0.out.trans (c1.mono H_bb0.out.size)
    have k1 := H_k0.out.below c1
    have j1 := H_j0.out.below c1
    have l1 := H_l0.out.below c1
    have r1 := H_r0.out.below c1
    have t1 := H_t0.out.below c1
    have m1 := H_m0.out.below c1
    have ⟨H_b1, H_c1, H_bb1, H_k1, H_j1, H_l1, H_r1, H_t1⟩ := hid8 b1 c1 bb1 k1 j1 l1 r1 t1; clear b1 c1 bb1 k1 j1 l1 r1 t1; have H_m1 := Lib.hid m1; clear m1
    have u0 := (H_k1.out 0 _ rfl).at
    have u1 := (H_k1.out 1 _ rfl).at
    have u2 := (H_k1.out 2 _ rfl).at
    have u3 := (H_k1.out 3 _ rfl).at
    have u4 := (H_k1.out 4 _ rfl).at
    have u5 := (H_k1.out 5 _ rfl).at
    go_wp2_with fail
    (with_reducible refine (H_q3.out _ ?_ ?_ ?_).mono ?_)
    · exact H_l1.out.below (show Below w1.heap.size w1 _ from belt)
    · exact H_t1.out.below (show Below w1.heap.size w1 _ from belt)
    · exact H_m1.out.below (show Below w1.heap.size w1 _ from belt)
    rintro e w2 ⟨rfl, b2⟩
    have c2 : Below w1.heap.size w1 w2 := Below.trans belt (b2.mono omh)
    have s2 := c2.size
    have bb2 := H_bb1.out.trans (c2.mono H_bb1.out.size)
    have k2 := H_k1.out.below c2
    have j2 := H_j1.out.below c2
    have l2 := H_l1.out.below c2
    have r2 := H_r1.out.below c2
    have t2 := H_t1.out.below c2
    have m2 := H_m1.out.below c2
    have ⟨H_b2, H_c2, H_bb2, H_k2, H_j2, H_l2, H_r2, H_t2⟩ := hid8 b2 c2 bb2 k2 j2 l2 r2 t2; clear b2 c2 bb2 k2 j2 l2 r2 t2; have H_m2 := Lib.hid m2; clear m2
    clear u0 u1 u2 u3 u4 u5
    have u0 := (H_j2.out 0 _ rfl).at
    have u1 := (H_j2.out 1 _ rfl).at
    have u2 := (H_j2.out 2 _ rfl).at
    have u3 := (H_j2.out 3 _ rfl).at
    have u4 := (H_j2.out 4 _ rfl).at
    have u5 := (H_j2.out 5 _ rfl).at
    go_wp2_with fail
    (with_reducible refine (H_q4.out _ ?_ ?_ ?_).mono ?_)
    · exact H_r2.out.below (show Below w2.heap.size w2 _ from belt)
    · exact H_t2.out.below (show Below w2.heap.size w2 _ from belt)
    · exact H_m2.out.below (show Below w2.heap.size w2 _ from belt)
    rintro e w3 ⟨rfl, b3⟩
    have c3 : Below w2.heap.size w2 w3 := Below.trans belt (b3.mono omh)
    have s3 := c3.size
    have bb3 := H_bb2.out.trans (c3.mono H_bb2.out.size)
    have k3 := H_k2.out.below c3
    have j3 := H_j2.out.below c3
    have l3 := H_l2.out.below c3
    have r3 := H_r2.out.below c3
    have t3 := H_t2.out.below c3
    have m3 := H_m2.out.below c3
    have ⟨H_b3, H_c3, H_bb3, H_k3, H_j3, H_l3, H_r3, H_t3⟩ := hid8 b3 c3 bb3 k3 j3 l3 r3 t3; clear b3 c3 bb3 k3 j3 l3 r3 t3; have H_m3 := Lib.hid m3; clear m3
    clear u0 u1 u2 u3 u4 u5
    have u0 := (H_k3.out 0 _ rfl).at
    have u1 := (H_k3.out 1 _ rfl).at
    have u2 := (H_k3.out 2 _ rfl).at
    have u3 := (H_k3.out 3 _ rfl).at
    have u4 := (H_k3.out 4 _ rfl).at
    have u5 := (H_k3.out 5 _ rfl).at
    have v0 := (H_j3.out 0 _ rfl).at
    have v1 := (H_j3.out 1 _ rfl).at
    have v2 := (H_j3.out 2 _ rfl).at
    have v3 := (H_j3.out 3 _ rfl).at
    have v4 := (H_j3.out 4 _ rfl).at
    have v5 := (H_j3.out 5 _ rfl).at
    have lt3 := H_l3.out.take q
    have zk3 := (H_k3.out 0 _ rfl).lt
    have zj3 := (H_j3.out 0 _ rfl).lt
    have rt3 := H_r3.out.take q
    have ⟨H_lt3, H_rt3⟩ := hid2 lt3 rt3; clear lt3 rt3
    go_upto_region 6 with (fail)
    refine wp_region_held_drew (S := (fun W => (∀ b o, b < w3.heap.size → W.cell? ⟨b, o, none⟩ = w3.cell? ⟨b, o, none⟩) ∧ Below w3.heap.size w3 W)) (by kernel_rfl) ?_ (fun hHeld => ?_)
    · (try dsimp only); (first | (refine ext_mk ?_; exact belt))
    refine take_at (i := 0) (some 41) rfl rfl (by kernel_rfl) (fun _ _ _ h => h) (by rfl) (v := ?_) ?_ (by assumption) ?_
    rotate_left
    · intro W hSw; (try dsimp only at hSw); go_simp; (try with_reducible rfl)
    (try simp only [apz])
    refine take_at (i := 1) (some 42) rfl rfl (by kernel_rfl) (fun _ _ _ h => h) (by rfl) (v := ?_) ?_ (by assumption) ?_
    rotate_left
    · intro W hSw; (try dsimp only at hSw); go_simp; (try with_reducible rfl)
    (try simp only [apz])
    refine take_at (i := 2) (some 43) rfl rfl (by kernel_rfl) (fun _ _ _ h => h) (by rfl) (v := ?_) ?_ (by assumption) ?_
    rotate_left
    · intro W hSw; (try dsimp only at hSw); go_simp; (try with_reducible rfl)
    (try simp only [apz])
    refine take_at (i := 3) (some 44) rfl rfl (by kernel_rfl) (fun _ _ _ h => h) (by rfl) (v := ?_) ?_ (by assumption) ?_
    rotate_left
    · intro W hSw; (try dsimp only at hSw); go_simp; (try with_reducible rfl)
    (try simp only [apz])
    refine take_at (i := 4) (some 45) rfl rfl (by kernel_rfl) (fun _ _ _ h => h) (by rfl) (v := ?_) ?_ (by assumption) ?_
    rotate_left
    · intro W hSw; (try dsimp only at hSw); go_simp; (try with_reducible rfl)
    (try simp only [apz])
    refine take_at (i := 5) (some 46) rfl rfl (by kernel_rfl) (fun _ _ _ h => h) (by rfl) (v := ?_) ?_ (by assumption) ?_
    rotate_left
    · intro W hSw; (try dsimp only at hSw); go_simp; (try with_reducible rfl)
    (try simp only [apz])
    refine take_at (i := 6) (some 47) rfl rfl (by kernel_rfl) (fun _ _ _ h => h) (by rfl) (v := ?_) ?_ (by assumption) ?_
    rotate_left
    · intro W hSw; (try dsimp only at hSw); go_simp; (try with_reducible rfl)
    (try simp only [apz])
    refine take_at (i := 7) (some 48) rfl rfl (by kernel_rfl) (fun _ _ _ h => h) (by rfl) (v := ?_) ?_ (by assumption) ?_
    rotate_left
    · intro W hSw; (try dsimp only at hSw); go_simp; (try with_reducible rfl)
    (try simp only [apz])
    refine wpAnyH_ready (rs := [8]) (by kernel_rfl) (by simp) ?_
    refine AllReadyH.cons rfl (fun K hK => ?_) AllReadyH.nil
    go_simp
    (go_at_call 51; (with_reducible refine (H_q6.out _ ?_ ?_).mono ?_); (focus (exact H_lt3.out.below (And.right (by assumption : _ ∧ Below w3.heap.size w3 _)))); (focus (exact H_rt3.out.below (And.right (by assumption : _ ∧ Below w3.heap.size w3 _)))); rintro e w4 ⟨rfl, hbw4⟩; have gw4 := Below.trans (And.right (by assumption : _ ∧ Below w3.heap.size w3 _)) (hbw4.mono (Below.size (And.right (by assumption : _ ∧ Below w3.heap.size w3 _)))); have gsw4 := gw4.size; have hcf := bcell hbw4; have hcw4 := hcf.1; have hfw4 := hcf.2; have hsw4 := hbw4.size; (try simp only [World.size_alloc, World.heap_drewN, heap_drew] at hsw4); clear hbw4 hcf; (try have hzw4 : w3.heap.size < w4.heap.size := by omega))
    refine hK.out _ _ ?_ (fun hHeld => ?_)
    · (try dsimp only); (first | (refine ext_mk ?_; exact belt))
    clear hK K
    (try simp only [apz])
    refine take_at (i := 9) (some 11) rfl rfl (by kernel_rfl) (fun _ _ _ h => h) (by rfl) (v := ?_) ?_ (by assumption) ?_
    rotate_left
    · intro W hSw; (try dsimp only at hSw); go_simp; (try with_reducible rfl)
    (try simp only [apz])
    refine wpAnyH_done (by kernel_rfl) ?_ _
    have gF : Below w3.heap.size w3 _ := And.right (by assumption)
    have gG := H_bb3.out.trans (gF.mono H_bb3.out.size)
    have ⟨H_gF, H_gG⟩ := hid2 gF gG; clear gF gG
    go_wp2_with fail
    go_ret2
    exact ⟨by first | trivial | rfl, H_gG.out⟩
theorem dif_comm (l k : List Msg) : difB l k = difB k l := by
  unfold difB
  rw [Nat.min_comm]
  exact congrArg (!·) (decide_eq_decide.2 ⟨Eq.symm, Eq.symm⟩)
theorem jgrown0_any (party : Int) (E : Option Addr) (ce N : Nat) (l : List Ent) (sec : Int) (hlN : l.length = N) (hN : N ≤ 100) (hp : ptyB party = true) (hs : wthB sec 1 = true) (w : World) (hxs : Ents w E l) (ht : Tab w) (hc : Cnt w) :
    Calls Tryd.prog 15 #[.agg #[.slice none 0 0, .int .i64 0, .int .i64 0, .int .u64 0, .int .i64 0, .int .i64 0], .int .i64 party, .slice E N ce, .int .i64 sec] w (GrownAt [] N party sec w) :=
  jgrown_any none 0 0 [] hd0 party E ce N l sec rfl ⟨Nat.le_refl _, by unfold maxLen; omega⟩ hlN (by omega) (Jok.nil party sec) hp hs w RowsAt.nil hxs ht hc
theorem frk_ok {ms ns : List Msg} {h g : Hd} {party sec : Int} (hj : Jok ms h party sec) (hk : Jok ns g party sec) (hp : ptyB party = true) (hs : wthB sec 1 = true) : frkE ms h ns g party (pubV sec) = 0 ∧ frkV ms h ns g party (pubV sec) = difB ms ns := by
  have e : frkE ms h ns g party (pubV sec) = 0 := by rw [frkE, if_pos ⟨hp, mem_pub hs⟩, if_pos ⟨hj.sgd, hk.sgd⟩]
  exact ⟨e, by rw [frkV, e]; rfl⟩
theorem jforksJ_any (A : Option Addr) (cp n : Nat) (ms : List Msg) (h : Hd) (B : Option Addr) (cq k : Nat) (ns : List Msg) (g : Hd) (party sec pub : Int) (hpub : pubV sec = pub) (hln : ms.length = n) (hlk : ns.length = k) (hn : n ≤ 1000) (hk : k ≤ 1000) (hnc : n ≤ cp) (hkc : k ≤ cq) (hj : Jok ms h party sec) (hj2 : Jok ns g party sec) (hp : ptyB party = true) (hs : wthB sec 1 = true) (w : World) (hl : Msgs w A ms) (hm : Msgs w B ns) (ht : Tab w) (hc : Cnt w) :
    Calls Tryd.prog 24 #[.agg #[.slice A n cp, .int .i64 h.p, .int .i64 h.n, .int .u64 h.c, .int .i64 h.e, .int .i64 h.s], .agg #[.slice B k cq, .int .i64 g.p, .int .i64 g.n, .int .u64 g.c, .int .i64 g.e, .int .i64 g.s], .int .i64 party, .int .i64 pub] w fun e w' => e = .returned (.tuple #[.bool (difB ms ns), .int .i64 0]) ∧ Below w.heap.size w w' := by
  have hpi := ptyB_iff.1 hp
  have := jforks_any A cp n ms h B cq k ns g party (pubV sec) hln hlk (by omega) (by omega) hnc hkc hj.fit hj2.fit (by omega) w hl hm ht hc
  rw [(frk_ok hj hj2 hp hs).1, (frk_ok hj hj2 hp hs).2, hpub] at this
  exact this
end Go.Proofs.YtmbmejclnagffaaDoor
