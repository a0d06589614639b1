/- The walk of LockOpens. -/
import Derived.OpenShut
import Derived.Test.YtoehobaigfmnpaaGreatDoorMo12
import Derived.Test.YtoehobaigfmnpaaGreatDoorMo23
import Derived.Test.YtoehobaigfmnpaaGreatDoorMo42
import Derived.Test.YtoehobaigfmnpaaGreatDoorMo46
section
namespace Go.Proofs.YtoehobaigfmnpaaGreatDoor
set_option linter.unusedSimpArgs false
set_option linter.unusedVariables false
set_option maxRecDepth 100000
open Go.RowKit Go.ChangeShapes Go.WideShapes Go.ChangeAt
theorem read_card {H : Type} {enc : TypeId × Value → H} {W : World} {held : Bool} (fuel : Nat) (cs : List Value) (x : DataW H × List MemPlace) (hl : cs.length = 9) (h : DataW.trod enc Tryz.prog W 0 (fun _ => true) held fuel 32 cs = some x) : ∃ z, CdAt W cs z := by
  obtain ⟨xs, n, _, _, _, hlen, hg⟩ := DataW.trod_struct Tryz.underlying32 h
  have hx : xs.length = 8 := hlen
  match xs, hx, cs, hl with
  | [y0, y1, y2, y3, y4, y5, y6, y7], _, [c0, c1, c2, c3, c4, c5, c6, c7, c8], _ =>
    have e1 : Tryz.prog.cellsOf 3 = 1 := by kernel_rfl
    have e2 : Tryz.prog.cellsOf 30 = 2 := by kernel_rfl
    have g0 := hg 0 _ rfl
    have g1 := hg 1 _ rfl
    have g2 := hg 2 _ rfl
    have g3 := hg 3 _ rfl
    have g4 := hg 4 _ rfl
    have g5 := hg 5 _ rfl
    have g6 := hg 6 _ rfl
    have g7 := hg 7 _ rfl
    simp [e1, e2] at g0 g1 g2 g3 g4 g5 g6 g7
    obtain ⟨a0, rfl, w0⟩ := read_int Tryz.underlying3 g0
    obtain ⟨a1, rfl, w1⟩ := read_int Tryz.underlying3 g1
    obtain ⟨a2, rfl, w2⟩ := read_int Tryz.underlying3 g2
    obtain ⟨a3, rfl, w3⟩ := read_int Tryz.underlying3 g3
    obtain ⟨a4, rfl, w4⟩ := read_int Tryz.underlying3 g4
    obtain ⟨a5, rfl, w5⟩ := read_int Tryz.underlying3 g5
    obtain ⟨a6, rfl, w6⟩ := read_int Tryz.underlying3 g6
    obtain ⟨zs, n2, _, _, _, hlen2, hg2⟩ := DataW.trod_struct Tryz.underlying30 g7
    have hz : zs.length = 2 := hlen2
    match zs, hz with
    | [z0, z1], _ =>
      have k0 := hg2 0 _ rfl
      have k1 := hg2 1 _ rfl
      simp [e1] at k0 k1
      obtain ⟨a7, rfl, w7⟩ := read_int Tryz.underlying3 k0
      obtain ⟨a8, rfl, w8⟩ := read_int Tryz.underlying3 k1
      exact ⟨⟨a0, a1, a2, a3, a4, a5, a6, a7, a8⟩, rfl, ⟨wf_i64 w0, wf_i64 w1, wf_i64 w2, wf_i64 w3, wf_i64 w4, wf_i64 w5, wf_i64 w6, wf_i64 w7, wf_i64 w8⟩⟩
theorem open_card {H : Type} {enc : TypeId × Value → H} {W : World} {base : Nat} {held : Bool} {v : Value} {d : DataW H} {p : List MemPlace} (hv : Value.okWide Tryz.prog W .any base 32 v) (h : DataW.Trod enc Tryz.prog W 0 (fun _ => true) held 32 v d p) :
    ∃ c : Crd, v = .agg c.cells.toArray ∧ CFit c := by
  obtain ⟨cs, rfl, hsz⟩ := okWide_struct Tryz.underlying32 hv
  have e : Tryz.prog.cellsOf 32 = 9 := by kernel_rfl
  obtain ⟨fuel, hf⟩ := h
  obtain ⟨z, hz, hzf⟩ := read_card fuel cs.toList _ (by rw [Array.length_toList, hsz, e]) hf
  exact ⟨z, by rw [← hz], hzf⟩
end Go.Proofs.YtoehobaigfmnpaaGreatDoor
end
section
namespace Go.Proofs.YtoehobaigfmnpaaGreatDoor
set_option linter.unusedSimpArgs false
set_option linter.unusedVariables false
set_option maxRecDepth 100000
open Go.RowKit Go.ChangeShapes Go.WideShapes Go.ChangeAt
theorem read_slots {H : Type} {enc : TypeId × Value → H} {W : World} {held : Bool} {fuel : Nat} {c0 c1 c2 c3 c4 c5 c6 c7 : Value} {x : DataW H × List MemPlace} (h : DataW.trod enc Tryz.prog W 0 (fun _ => true) held fuel 26 [c0, c1, c2, c3, c4, c5, c6, c7] = some x) :
    ∃ (x y : Slt) (A : Option Addr) (n cap : Nat) (B : Option Addr) (m q : Nat), [c0, c1, c2, c3, c4, c5, c6, c7] = [.int .i64 x.s, .int .i64 x.c, .slice A n cap, .int .u64 x.u, .int .i64 y.s, .int .i64 y.c, .slice B m q, .int .u64 y.u] ∧ SlotArg W A n cap x ∧ SlotArg W B m q y := by
  have e4 : Tryz.prog.cellsOf 25 = 4 := by kernel_rfl
  obtain ⟨xs, m, _, _, _, hlen, hg⟩ := DataW.trod_array Tryz.underlying26 h
  match xs, hlen with
  | [y0, y1], _ =>
    have g0 := hg 0 (by omega)
    have g1 := hg 1 (by omega)
    simp [e4] at g0 g1
    obtain ⟨x, A, n, cap, rfl, rfl, rfl, rfl, hx⟩ := read_slot g0
    obtain ⟨y, B, m, q, rfl, rfl, rfl, rfl, hy⟩ := read_slot g1
    exact ⟨x, y, A, n, cap, B, m, q, rfl, hx, hy⟩
theorem read_lock {H : Type} {enc : TypeId × Value → H} {W : World} {held : Bool} (fuel : Nat) (cs : List Value) (x : DataW H × List MemPlace) (hl : cs.length = 12) (h : DataW.trod enc Tryz.prog W 0 (fun _ => true) held fuel 28 cs = some x) :
    ∃ (l : Lk) (A : Option Addr) (n p : Nat) (B : Option Addr) (m q : Nat), cs = l.cells A n p B m q ∧ SlotArg W A n p l.x ∧ SlotArg W B m q l.y ∧ LFit l := by
  obtain ⟨xs, n, _, _, _, hlen, hg⟩ := DataW.trod_struct Tryz.underlying28 h
  have hx : xs.length = 5 := hlen
  match xs, hx, cs, hl with
  | [y0, y1, y2, y3, y4], _, [c0, c1, c2, c3, c4, c5, c6, c7, c8, c9, c10, c11], _ =>
    have e1 : Tryz.prog.cellsOf 3 = 1 := by kernel_rfl
    have e2 : Tryz.prog.cellsOf 26 = 8 := by kernel_rfl
    have e3 : Tryz.prog.cellsOf 4 = 1 := by kernel_rfl
    have g0 := hg 0 _ rfl
    have g1 := hg 1 _ rfl
    have g2 := hg 2 _ rfl
    have g3 := hg 3 _ rfl
    have g4 := hg 4 _ rfl
    simp [e1, e2, e3] at g0 g1 g2 g3 g4
    obtain ⟨a0, rfl, w0⟩ := read_int Tryz.underlying3 g0
    obtain ⟨a1, rfl, w1⟩ := read_int Tryz.underlying3 g1
    obtain ⟨a2, rfl, w2⟩ := read_int Tryz.underlying3 g2
    obtain ⟨x, y, A, n, p, B, m, q, e, hx, hy⟩ := read_slots g3
    obtain ⟨b, hb, _⟩ := DataW.trod_bool Tryz.underlying4 g4
    simp only [List.cons.injEq, and_true] at e hb
    obtain ⟨rfl, rfl, rfl, rfl, rfl, rfl, rfl, rfl⟩ := e
    subst hb
    exact ⟨⟨a0, a1, a2, x, y, b⟩, A, n, p, B, m, q, rfl, hx, hy, ⟨wf_i64 w0, wf_i64 w1, wf_i64 w2⟩⟩
theorem open_lock {H : Type} {enc : TypeId × Value → H} {W : World} {base : Nat} {held : Bool} {v : Value} {d : DataW H} {p : List MemPlace} (hv : Value.okWide Tryz.prog W .any base 28 v) (h : DataW.Trod enc Tryz.prog W 0 (fun _ => true) held 28 v d p) :
    ∃ (l : Lk) (A : Option Addr) (n p : Nat) (B : Option Addr) (m q : Nat), v = .agg (l.cells A n p B m q).toArray ∧ SlotArg W A n p l.x ∧ SlotArg W B m q l.y ∧ LFit l := by
  obtain ⟨cs, rfl, hsz⟩ := okWide_struct Tryz.underlying28 hv
  have e : Tryz.prog.cellsOf 28 = 12 := by kernel_rfl
  obtain ⟨fuel, hf⟩ := h
  obtain ⟨l, A, n, p, B, m, q, hz, hx, hy, hl⟩ := read_lock fuel cs.toList _ (by rw [Array.length_toList, hsz, e]) hf
  exact ⟨l, A, n, p, B, m, q, by rw [← hz], hx, hy, hl⟩
end Go.Proofs.YtoehobaigfmnpaaGreatDoor
end
section
namespace Go.Proofs.YtoehobaigfmnpaaGreatDoor
set_option linter.unusedSimpArgs false
set_option linter.unusedVariables false
set_option maxRecDepth 100000
open Go.RowKit
set_option maxHeartbeats 16000000 in
theorem lockOpens_walk (l : Lk) (A : Option Addr) (n p : Nat) (B : Option Addr) (m q : Nat) (c : Crd) (t a : Int) (w : World) (hx : SlotArg w A n p l.x) (hy : SlotArg w B m q l.y) (hl : LFit l) (hc : CFit c) (hti : (Lit.int .i64 t).wf = true) (hat : (Lit.int .i64 a).wf = true) (ht : Tab w) :
    Calls Tryz.prog 4 #[.agg (l.cells A n p B m q).toArray, .agg c.cells.toArray, .int .i64 t, .int .i64 a] w fun e w' => e = .returned (.bool true) ∧ Below w.heap.size w w' := by
  obtain ⟨w0, hw0⟩ : ∃ W, (w.alloc (.cells (l.cells A n p B m q).toArray 28)).alloc (.cells c.cells.toArray 32) = W := ⟨_, rfl⟩
  have bb0 : Below w.heap.size w w0 := by rw [← hw0]; exact ((Below.refl _ _).alloc (Nat.le_refl _) _).alloc (by simp) _
  have k0 : Blk w0 w.heap.size (l.cells A n p B m q).toArray := by rw [← hw0]; exact (blk_new rfl).alloc _
  have g0 : Blk w0 (w.heap.size + 1) c.cells.toArray := by rw [← hw0]; exact blk_new (by simp)
  have t0 := ht.below bb0
  have q1 := head37_any w0 t0
  have lq := hx.room; have lm := hx.max; have lq' := hy.room; have lm' := hy.max
  have q2 := fun W (h : Below w.heap.size w W) => lright_any l c t A n p B m q W (by omega) (by omega) (fun h1 => (hx.below h).is h1) (fun h1 => (hy.below h).is h1) hc
  cases hR : rgtB l c t n m with
  | false =>
    rw [hR] at q2
    unfold Lk.cells at k0 hw0 q2 ⊢
    unfold Crd.cells at g0 hw0 q2 ⊢
    have ⟨H_bb0, H_k0, H_g0, H_hw0, H_q1, H_q2, H_t0, H_hx⟩ := hid8 bb0 k0 g0 hw0 q1 q2 t0 hx; clear bb0 k0 g0 hw0 q1 q2 t0 hx; have ⟨H_hy, H_hl, H_hc, H_hti, H_hat, H_ht, H_hR, H_lq⟩ := hid8 hy hl hc hti hat ht hR lq; clear hy hl hc hti hat ht hR lq; have ⟨H_lm, H_lq', H_lm'⟩ := hid3 lm lq' lm'; clear lm lq' lm'
    go_enter Tryz.func4, Tryz.ntmps4
    go_wp2_with fail
    rw [H_hw0.out]
    go_wp2_with fail
    (with_reducible refine (H_q1.out).mono ?_)
    rintro e w1 ⟨rfl, b1⟩
    have c1 : Below w0.heap.size w0 w1 := Below.trans belt (b1.mono omh)
    have s1 := c1.size
    have bb1 := H_bb0.out.trans (c1.mono H_bb0.out.size)
    have t1 := H_t0.out.below c1
    have k1 := H_k0.out.below c1
    have g1 := H_g0.out.below c1
    have ⟨H_b1, H_c1, H_bb1, H_t1, H_k1, H_g1⟩ := hid6 b1 c1 bb1 t1 k1 g1; clear b1 c1 bb1 t1 k1 g1
    obtain ⟨y0, y1, y2, y3, y4, y5, y6, y7, y8, y9, y10, y11⟩ := at12_of H_k1.out
    obtain ⟨z0, z1, z2, z3, z4, z5, z6, z7, z8⟩ := at9_of H_g1.out
    go_wp2_with fail
    (with_reducible refine (H_q2.out _ ?_).mono ?_)
    · exact H_bb1.out.trans ((show Below w1.heap.size w1 _ from belt).mono H_bb1.out.size)
    rintro e w2 ⟨rfl, b2⟩
    have c2 : Below w1.heap.size w1 w2 := Below.trans belt (b2.mono omh)
    have s2 := c2.size
    have bb2 := H_bb1.out.trans (c2.mono H_bb1.out.size)
    have t2 := H_t1.out.below c2
    have ⟨H_b2, H_c2, H_bb2, H_t2⟩ := hid4 b2 c2 bb2 t2; clear b2 c2 bb2 t2
    go_wp2_with fail
    go_ret
    exact ⟨rfl, H_bb2.out⟩
  | true =>
    rw [hR] at q2
    have hR2 := hR
    simp only [rgtB, Bool.and_eq_true, len40B, decide_eq_true_eq] at hR2
    obtain ⟨⟨⟨⟨n40, m40⟩, hv⟩, hcv⟩, htb⟩ := hR2
    have q3 := fun W (h : Below w.heap.size w W) => show_any l c t a A n p B m q W ((hx.below h).is n40) ((hy.below h).is m40) (ht.below h) hc
    by_cases hE : shE l c t a = 0
    rotate_left
    · obtain ⟨zR, zO⟩ := sh_err rfl hE
      rw [zR, zO] at q3
      have q4 := fun W A p B q => rlsame_self Lk.zero A 0 p B 0 q none 0 none 0 rfl rfl (by omega) (by omega) W (fun i hi => absurd hi (by simp [Lk.zero, Slt.zero])) (fun i hi => absurd hi (by simp [Lk.zero, Slt.zero])) (fun i hi => absurd hi (by simp [Lk.zero, Slt.zero])) (fun i hi => absurd hi (by simp [Lk.zero, Slt.zero]))
      have i2 : (shE l c t a != 0) = true := by simp [hE]
      have i3 : (shE l c t a == 0) = false := by simp [hE]
      generalize shE l c t a = EE at *
      clear zR zO
      unfold ShowPost at q3
      unfold Lk.cells at k0 hw0 q2 q3 q4 ⊢
      unfold Crd.cells at g0 hw0 q2 q3 ⊢
      simp only [Lk.zero, Slt.zero, List.length_nil] at q3 q4
      have ⟨H_bb0, H_k0, H_g0, H_hw0, H_q1, H_q2, H_q3, H_q4⟩ := hid8 bb0 k0 g0 hw0 q1 q2 q3 q4; clear bb0 k0 g0 hw0 q1 q2 q3 q4; have ⟨H_t0, H_hx, H_hy, H_hl, H_hc, H_hti, H_hat, H_ht⟩ := hid8 t0 hx hy hl hc hti hat ht; clear t0 hx hy hl hc hti hat ht; have ⟨H_hR, H_lq, H_lm, H_lq', H_lm', H_hE, H_n40, H_m40⟩ := hid8 hR lq lm lq' lm' hE n40 m40; clear hR lq lm lq' lm' hE n40 m40; have ⟨H_hv, H_hcv, H_htb⟩ := hid3 hv hcv htb; clear hv hcv htb
      go_enter Tryz.func4, Tryz.ntmps4
      go_wp2_with fail
      rw [H_hw0.out]
      go_wp2_with fail
      (with_reducible refine (H_q1.out).mono ?_)
      rintro e w1 ⟨rfl, b1⟩
      have c1 : Below w0.heap.size w0 w1 := Below.trans belt (b1.mono omh)
      have s1 := c1.size
      have bb1 := H_bb0.out.trans (c1.mono H_bb0.out.size)
      have t1 := H_t0.out.below c1
      have k1 := H_k0.out.below c1
      have g1 := H_g0.out.below c1
      have ⟨H_b1, H_c1, H_bb1, H_t1, H_k1, H_g1⟩ := hid6 b1 c1 bb1 t1 k1 g1; clear b1 c1 bb1 t1 k1 g1
      obtain ⟨y0, y1, y2, y3, y4, y5, y6, y7, y8, y9, y10, y11⟩ := at12_of H_k1.out
      obtain ⟨z0, z1, z2, z3, z4, z5, z6, z7, z8⟩ := at9_of H_g1.out
      go_wp2_with fail
      (with_reducible refine (H_q2.out _ ?_).mono ?_)
      · exact H_bb1.out.trans ((show Below w1.heap.size w1 _ from belt).mono H_bb1.out.size)
      rintro e w2 ⟨rfl, b2⟩
      have c2 : Below w1.heap.size w1 w2 := Below.trans belt (b2.mono omh)
      have s2 := c2.size
      have bb2 := H_bb1.out.trans (c2.mono H_bb1.out.size)
      have t2 := H_t1.out.below c2
      have k2 := H_k1.out.below c2
      have g2 := H_g1.out.below c2
      have ⟨H_b2, H_c2, H_bb2, H_t2, H_k2, H_g2⟩ := hid6 b2 c2 bb2 t2 k2 g2; clear b2 c2 bb2 t2 k2 g2
      clear y0 y1 y2 y3 y4 y5 y6 y7 y8 y9 y10 y11
      clear z0 z1 z2 z3 z4 z5 z6 z7 z8
      obtain ⟨y0, y1, y2, y3, y4, y5, y6, y7, y8, y9, y10, y11⟩ := at12_of H_k2.out
      obtain ⟨z0, z1, z2, z3, z4, z5, z6, z7, z8⟩ := at9_of H_g2.out
      go_wp2_with fail
      (with_reducible refine (H_q3.out _ ?_).mono ?_)
      · exact H_bb2.out.trans ((show Below w2.heap.size w2 _ from belt).mono H_bb2.out.size)
      rintro e w3 ⟨A3, p3, B3, r3, rfl, _, _, b3⟩
      have c3 : Below w2.heap.size w2 w3 := Below.trans belt (b3.mono omh)
      have s3 := c3.size
      have bb3 := H_bb2.out.trans (c3.mono H_bb2.out.size)
      have t3 := H_t2.out.below c3
      have k3 := H_k2.out.below c3
      have g3 := H_g2.out.below c3
      have ⟨H_b3, H_c3, H_bb3, H_t3, H_k3, H_g3⟩ := hid6 b3 c3 bb3 t3 k3 g3; clear b3 c3 bb3 t3 k3 g3
      clear y0 y1 y2 y3 y4 y5 y6 y7 y8 y9 y10 y11
      clear z0 z1 z2 z3 z4 z5 z6 z7 z8
      go_wp2_with fail
      (with_reducible refine (H_q4.out _ A3 p3 B3 r3).mono ?_)
      rintro e w4 ⟨rfl, b4⟩
      have c4 : Below w3.heap.size w3 w4 := Below.trans belt (b4.mono omh)
      have s4 := c4.size
      have bb4 := H_bb3.out.trans (c4.mono H_bb3.out.size)
      have t4 := H_t3.out.below c4
      have ⟨H_b4, H_c4, H_bb4, H_t4⟩ := hid4 b4 c4 bb4 t4; clear b4 c4 bb4 t4
      go_wp2_with fail
      go_ret
      exact ⟨rfl, H_bb4.out⟩
    have hL := left_of hE
    obtain ⟨_, hu, hg, hac, _⟩ := sh_ok hE
    obtain ⟨⟨_, hmay⟩, hmine, _, _⟩ := acc_iff.1 hac
    have hgE := chkE_zero hv hcv
    have q4 := fun W (h : Below w.heap.size w W) => ccheck_any c l.k hc W (ht.below h)
    rw [hg, hgE] at q4
    have q5 := fun W => rMaybe_any t l.r c.f c.u W
    rw [hmay] at q5
    have hopn : shO l c t a = (decide (a = 3) && !decide (c.k = 3)) := by rw [shO, if_pos hE]
    have hmn : c.d = l.d ∨ (c.d ≠ l.d ∧ c.d = 0 ∧ c.k ≠ 1) := by
      by_cases h : c.d = l.d
      · exact .inl h
      · have h0 := hmine.resolve_left h
        have hk := (cvB_iff.1 hcv).2
        exact .inr ⟨h, h0, by unfold kindP at hk; omega⟩
    rw [hE, hopn] at q3
    unfold ShowPost at q3
    unfold Lk.cells at k0 hw0 q2 q3 ⊢
    rw [hL.d, hL.k, hL.r, hL.up] at q3
    unfold Crd.cells at g0 hw0 q2 q3 q4 ⊢
    generalize errN (askB t l.r c.f c.u) = E5 at *
    generalize shR l c t a = M at *
    clear hL hac hopn hg hgE hmay hmine
    obtain ⟨ci, ck, cd, cn, cf, cu, cl, ce, cs⟩ := c
    obtain ⟨ld, lk, lr, lx, ly, lu⟩ := l
    dsimp only at *
    subst hu
    have ha : a = 3 ∨ (a ≠ 3 ∧ decide (a = 3) = false ∧ (a == 3) = false) := by by_cases h : a = 3; exact .inl h; exact .inr ⟨h, decide_eq_false h, by simpa using h⟩
    have hk3 : ck = 3 ∨ (ck ≠ 3 ∧ decide (ck = 3) = false ∧ (ck == 3) = false) := by by_cases h : ck = 3; exact .inl h; exact .inr ⟨h, decide_eq_false h, by simpa using h⟩
    rcases hmn with rfl | ⟨hm1, rfl, hm2⟩
    · rcases ha with rfl | ⟨ha1, ha2, ha3⟩ <;> rcases hk3 with rfl | ⟨hk1, hk2, hk3⟩
      all_goals
        simp only [*, decide_true, Bool.not_true, Bool.not_false, Bool.and_false, Bool.and_true, Bool.false_and] at q3
        have ⟨H_bb0, H_k0, H_g0, H_hw0, H_q1, H_q2, H_q3, H_q4⟩ := hid8 bb0 k0 g0 hw0 q1 q2 q3 q4; clear bb0 k0 g0 hw0 q1 q2 q3 q4; have ⟨H_q5, H_t0, H_hx, H_hy, H_hl, H_hc, H_hti, H_hat⟩ := hid8 q5 t0 hx hy hl hc hti hat; clear q5 t0 hx hy hl hc hti hat; have ⟨H_ht, H_hR, H_lq, H_lm, H_lq', H_lm', H_hE, H_n40⟩ := hid8 ht hR lq lm lq' lm' hE n40; clear ht hR lq lm lq' lm' hE n40; have ⟨H_m40, H_hv, H_hcv, H_htb⟩ := hid4 m40 hv hcv htb; clear m40 hv hcv htb
        go_enter Tryz.func4, Tryz.ntmps4
        go_wp2_with fail
        rw [H_hw0.out]
        go_wp2_with fail
        (with_reducible refine (H_q1.out).mono ?_)
        rintro e w1 ⟨rfl, b1⟩
        have c1 : Below w0.heap.size w0 w1 := Below.trans belt (b1.mono omh)
        have s1 := c1.size
        have bb1 := H_bb0.out.trans (c1.mono H_bb0.out.size)
        have t1 := H_t0.out.below c1
        have k1 := H_k0.out.below c1
        have g1 := H_g0.out.below c1
        have ⟨H_b1, H_c1, H_bb1, H_t1, H_k1, H_g1⟩ := hid6 b1 c1 bb1 t1 k1 g1; clear b1 c1 bb1 t1 k1 g1
        obtain ⟨y0, y1, y2, y3, y4, y5, y6, y7, y8, y9, y10, y11⟩ := at12_of H_k1.out
        obtain ⟨z0, z1, z2, z3, z4, z5, z6, z7, z8⟩ := at9_of H_g1.out
        go_wp2_with fail
        (with_reducible refine (H_q2.out _ ?_).mono ?_)
        · exact H_bb1.out.trans ((show Below w1.heap.size w1 _ from belt).mono H_bb1.out.size)
        rintro e w2 ⟨rfl, b2⟩
        have c2 : Below w1.heap.size w1 w2 := Below.trans belt (b2.mono omh)
        have s2 := c2.size
        have bb2 := H_bb1.out.trans (c2.mono H_bb1.out.size)
        have t2 := H_t1.out.below c2
        have k2 := H_k1.out.below c2
        have g2 := H_g1.out.below c2
        have ⟨H_b2, H_c2, H_bb2, H_t2, H_k2, H_g2⟩ := hid6 b2 c2 bb2 t2 k2 g2; clear b2 c2 bb2 t2 k2 g2
        clear y0 y1 y2 y3 y4 y5 y6 y7 y8 y9 y10 y11
        clear z0 z1 z2 z3 z4 z5 z6 z7 z8
        obtain ⟨y0, y1, y2, y3, y4, y5, y6, y7, y8, y9, y10, y11⟩ := at12_of H_k2.out
        obtain ⟨z0, z1, z2, z3, z4, z5, z6, z7, z8⟩ := at9_of H_g2.out
        go_wp2_with fail
        (with_reducible refine (H_q3.out _ ?_).mono ?_)
        · exact H_bb2.out.trans ((show Below w2.heap.size w2 _ from belt).mono H_bb2.out.size)
        rintro e w3 ⟨A3, p3, B3, r3, rfl, _, _, b3⟩
        have c3 : Below w2.heap.size w2 w3 := Below.trans belt (b3.mono omh)
        have s3 := c3.size
        have bb3 := H_bb2.out.trans (c3.mono H_bb2.out.size)
        have t3 := H_t2.out.below c3
        have k3 := H_k2.out.below c3
        have g3 := H_g2.out.below c3
        have ⟨H_b3, H_c3, H_bb3, H_t3, H_k3, H_g3⟩ := hid6 b3 c3 bb3 t3 k3 g3; clear b3 c3 bb3 t3 k3 g3
        clear y0 y1 y2 y3 y4 y5 y6 y7 y8 y9 y10 y11
        clear z0 z1 z2 z3 z4 z5 z6 z7 z8
        obtain ⟨y0, y1, y2, y3, y4, y5, y6, y7, y8, y9, y10, y11⟩ := at12_of H_k3.out
        obtain ⟨z0, z1, z2, z3, z4, z5, z6, z7, z8⟩ := at9_of H_g3.out
        have ly3 := (H_k3.out 0 _ rfl).lt
        have lz3 := (H_g3.out 0 _ rfl).lt
        go_wp2_with fail
        (with_reducible refine (H_q4.out _ ?_).mono ?_)
        · exact H_bb3.out.trans ((show Below w3.heap.size w3 _ from belt).mono H_bb3.out.size)
        rintro e w4 ⟨rfl, b4⟩
        have c4 : Below w3.heap.size w3 w4 := Below.trans belt (b4.mono omh)
        have s4 := c4.size
        have bb4 := H_bb3.out.trans (c4.mono H_bb3.out.size)
        have t4 := H_t3.out.below c4
        have k4 := H_k3.out.below c4
        have g4 := H_g3.out.below c4
        have ⟨H_b4, H_c4, H_bb4, H_t4, H_k4, H_g4⟩ := hid6 b4 c4 bb4 t4 k4 g4; clear b4 c4 bb4 t4 k4 g4
        clear ly3 lz3
        clear y0 y1 y2 y3 y4 y5 y6 y7 y8 y9 y10 y11
        clear z0 z1 z2 z3 z4 z5 z6 z7 z8
        have km4 : Blk w4 w3.heap.size _ := (blk_new rfl).below H_b4.out
        have H_km4 := Lib.hid km4; clear km4
        obtain ⟨y0, y1, y2, y3, y4, y5, y6, y7, y8, y9, y10, y11⟩ := at12_of H_k4.out
        obtain ⟨z0, z1, z2, z3, z4, z5, z6, z7, z8⟩ := at9_of H_g4.out
        go_wp2_with fail
        (with_reducible refine (H_q5.out _).mono ?_)
        rintro e w5 ⟨rfl, b5⟩
        have c5 : Below w4.heap.size w4 w5 := Below.trans belt (b5.mono omh)
        have s5 := c5.size
        have bb5 := H_bb4.out.trans (c5.mono H_bb4.out.size)
        have k5 := H_k4.out.below c5
        have g5 := H_g4.out.below c5
        have km5 := H_km4.out.below c5
        have ⟨H_b5, H_c5, H_bb5, H_k5, H_g5, H_km5⟩ := hid6 b5 c5 bb5 k5 g5 km5; clear b5 c5 bb5 k5 g5 km5
        clear y0 y1 y2 y3 y4 y5 y6 y7 y8 y9 y10 y11
        clear z0 z1 z2 z3 z4 z5 z6 z7 z8
        obtain ⟨y0, y1, y2, y3, y4, y5, y6, y7, y8, y9, y10, y11⟩ := at12_of H_k5.out
        obtain ⟨z0, z1, z2, z3, z4, z5, z6, z7, z8⟩ := at9_of H_g5.out
        obtain ⟨v0, v1, v2, v3, v4, v5, v6, v7, v8, v9, v10, v11⟩ := at12_of H_km5.out
        go_wp2_with fail
        go_ret
        exact ⟨rfl, H_bb5.out⟩
    · have i1 : (0 == ld) = false := by simp only [beq_eq_false_iff_ne]; exact hm1
      have i2 : (ck != 1) = true := by simp only [bne_iff_ne]; exact hm2
      have i3 : decide (ck = 1) = false := decide_eq_false hm2
      have i4 : decide (0 = ld) = false := decide_eq_false hm1
      rcases ha with rfl | ⟨ha1, ha2, ha3⟩ <;> rcases hk3 with rfl | ⟨hk1, hk2, hk3⟩
      all_goals
        simp only [*, decide_true, Bool.not_true, Bool.not_false, Bool.and_false, Bool.and_true, Bool.false_and] at q3
        have ⟨H_bb0, H_k0, H_g0, H_hw0, H_q1, H_q2, H_q3, H_q4⟩ := hid8 bb0 k0 g0 hw0 q1 q2 q3 q4; clear bb0 k0 g0 hw0 q1 q2 q3 q4; have ⟨H_q5, H_t0, H_hx, H_hy, H_hl, H_hc, H_hti, H_hat⟩ := hid8 q5 t0 hx hy hl hc hti hat; clear q5 t0 hx hy hl hc hti hat; have ⟨H_ht, H_hR, H_lq, H_lm, H_lq', H_lm', H_hE, H_n40⟩ := hid8 ht hR lq lm lq' lm' hE n40; clear ht hR lq lm lq' lm' hE n40; have ⟨H_m40, H_hv, H_hcv, H_htb⟩ := hid4 m40 hv hcv htb; clear m40 hv hcv htb
        go_enter Tryz.func4, Tryz.ntmps4
        go_wp2_with fail
        rw [H_hw0.out]
        go_wp2_with fail
        (with_reducible refine (H_q1.out).mono ?_)
        rintro e w1 ⟨rfl, b1⟩
        have c1 : Below w0.heap.size w0 w1 := Below.trans belt (b1.mono omh)
        have s1 := c1.size
        have bb1 := H_bb0.out.trans (c1.mono H_bb0.out.size)
        have t1 := H_t0.out.below c1
        have k1 := H_k0.out.below c1
        have g1 := H_g0.out.below c1
        have ⟨H_b1, H_c1, H_bb1, H_t1, H_k1, H_g1⟩ := hid6 b1 c1 bb1 t1 k1 g1; clear b1 c1 bb1 t1 k1 g1
        obtain ⟨y0, y1, y2, y3, y4, y5, y6, y7, y8, y9, y10, y11⟩ := at12_of H_k1.out
        obtain ⟨z0, z1, z2, z3, z4, z5, z6, z7, z8⟩ := at9_of H_g1.out
        go_wp2_with fail
        (with_reducible refine (H_q2.out _ ?_).mono ?_)
        · exact H_bb1.out.trans ((show Below w1.heap.size w1 _ from belt).mono H_bb1.out.size)
        rintro e w2 ⟨rfl, b2⟩
        have c2 : Below w1.heap.size w1 w2 := Below.trans belt (b2.mono omh)
        have s2 := c2.size
        have bb2 := H_bb1.out.trans (c2.mono H_bb1.out.size)
        have t2 := H_t1.out.below c2
        have k2 := H_k1.out.below c2
        have g2 := H_g1.out.below c2
        have ⟨H_b2, H_c2, H_bb2, H_t2, H_k2, H_g2⟩ := hid6 b2 c2 bb2 t2 k2 g2; clear b2 c2 bb2 t2 k2 g2
        clear y0 y1 y2 y3 y4 y5 y6 y7 y8 y9 y10 y11
        clear z0 z1 z2 z3 z4 z5 z6 z7 z8
        obtain ⟨y0, y1, y2, y3, y4, y5, y6, y7, y8, y9, y10, y11⟩ := at12_of H_k2.out
        obtain ⟨z0, z1, z2, z3, z4, z5, z6, z7, z8⟩ := at9_of H_g2.out
        go_wp2_with fail
        (with_reducible refine (H_q3.out _ ?_).mono ?_)
        · exact H_bb2.out.trans ((show Below w2.heap.size w2 _ from belt).mono H_bb2.out.size)
        rintro e w3 ⟨A3, p3, B3, r3, rfl, _, _, b3⟩
        have c3 : Below w2.heap.size w2 w3 := Below.trans belt (b3.mono omh)
        have s3 := c3.size
        have bb3 := H_bb2.out.trans (c3.mono H_bb2.out.size)
        have t3 := H_t2.out.below c3
        have k3 := H_k2.out.below c3
        have g3 := H_g2.out.below c3
        have ⟨H_b3, H_c3, H_bb3, H_t3, H_k3, H_g3⟩ := hid6 b3 c3 bb3 t3 k3 g3; clear b3 c3 bb3 t3 k3 g3
        clear y0 y1 y2 y3 y4 y5 y6 y7 y8 y9 y10 y11
        clear z0 z1 z2 z3 z4 z5 z6 z7 z8
        obtain ⟨y0, y1, y2, y3, y4, y5, y6, y7, y8, y9, y10, y11⟩ := at12_of H_k3.out
        obtain ⟨z0, z1, z2, z3, z4, z5, z6, z7, z8⟩ := at9_of H_g3.out
        have ly3 := (H_k3.out 0 _ rfl).lt
        have lz3 := (H_g3.out 0 _ rfl).lt
        go_wp2_with fail
        (with_reducible refine (H_q4.out _ ?_).mono ?_)
        · exact H_bb3.out.trans ((show Below w3.heap.size w3 _ from belt).mono H_bb3.out.size)
        rintro e w4 ⟨rfl, b4⟩
        have c4 : Below w3.heap.size w3 w4 := Below.trans belt (b4.mono omh)
        have s4 := c4.size
        have bb4 := H_bb3.out.trans (c4.mono H_bb3.out.size)
        have t4 := H_t3.out.below c4
        have k4 := H_k3.out.below c4
        have g4 := H_g3.out.below c4
        have ⟨H_b4, H_c4, H_bb4, H_t4, H_k4, H_g4⟩ := hid6 b4 c4 bb4 t4 k4 g4; clear b4 c4 bb4 t4 k4 g4
        clear ly3 lz3
        clear y0 y1 y2 y3 y4 y5 y6 y7 y8 y9 y10 y11
        clear z0 z1 z2 z3 z4 z5 z6 z7 z8
        have km4 : Blk w4 w3.heap.size _ := (blk_new rfl).below H_b4.out
        have H_km4 := Lib.hid km4; clear km4
        obtain ⟨y0, y1, y2, y3, y4, y5, y6, y7, y8, y9, y10, y11⟩ := at12_of H_k4.out
        obtain ⟨z0, z1, z2, z3, z4, z5, z6, z7, z8⟩ := at9_of H_g4.out
        go_wp2_with fail
        (with_reducible refine (H_q5.out _).mono ?_)
        rintro e w5 ⟨rfl, b5⟩
        have c5 : Below w4.heap.size w4 w5 := Below.trans belt (b5.mono omh)
        have s5 := c5.size
        have bb5 := H_bb4.out.trans (c5.mono H_bb4.out.size)
        have k5 := H_k4.out.below c5
        have g5 := H_g4.out.below c5
        have km5 := H_km4.out.below c5
        have ⟨H_b5, H_c5, H_bb5, H_k5, H_g5, H_km5⟩ := hid6 b5 c5 bb5 k5 g5 km5; clear b5 c5 bb5 k5 g5 km5
        clear y0 y1 y2 y3 y4 y5 y6 y7 y8 y9 y10 y11
        clear z0 z1 z2 z3 z4 z5 z6 z7 z8
        obtain ⟨y0, y1, y2, y3, y4, y5, y6, y7, y8, y9, y10, y11⟩ := at12_of H_k5.out
        obtain ⟨z0, z1, z2, z3, z4, z5, z6, z7, z8⟩ := at9_of H_g5.out
        obtain ⟨v0, v1, v2, v3, v4, v5, v6, v7, v8, v9, v10, v11⟩ := at12_of H_km5.out
        go_wp2_with fail
        go_ret
        exact ⟨rfl, H_bb5.out⟩
end Go.Proofs.YtoehobaigfmnpaaGreatDoor
end
