/- Package journal: Append. -/
import Derived.Test.YtmbmejclnagffaaDoorM36
set_option linter.unusedSimpArgs false
set_option linter.unusedVariables false
set_option maxRecDepth 100000
namespace Go.Proofs.YtmbmejclnagffaaDoor
open Go.RowKit
/-- a message that is appended behind n others -/
def newM (party : Int) (n : Nat) (time kind : Int) (B : Option Addr) (k : Nat) (a : List Int) : Msg := ⟨party, (n : Int) + 1, time, kind, B, k, a⟩
def zeroJ : Value := .agg #[.slice none 0 0, .int .i64 0, .int .i64 0, .int .u64 0, .int .i64 0, .int .i64 0]
/-- what Append hands back -/
def AppAt (ms : List Msg) (h : Hd) (party time kind : Int) (a : List Int) (sec once : Int) (w : World) (e : Ending) (w' : World) : Prop :=
  (apE ms h party time kind a sec once ≠ 0 ∧ e = .returned (.tuple #[zeroJ, .int .i64 (apE ms h party time kind a sec once)]) ∧ Below w.heap.size w w') ∨
  (apE ms h party time kind a sec once = 0 ∧ ∃ (X : Option Addr) (c : Nat) (B : Option Addr) (k : Nat), e = .returned (.tuple #[.agg #[.slice X (ms.length + 1) c, .int .i64 party, .int .i64 ((ms.length : Int) + 1), .int .u64 (chI (ms ++ [newM party ms.length time kind B k a])), .int .i64 (apH (ms ++ [newM party ms.length time kind B k a]) party sec once).e, .int .i64 (apH (ms ++ [newM party ms.length time kind B k a]) party sec once).s], .int .i64 0]) ∧
    Msgs w' X (ms ++ [newM party ms.length time kind B k a]) ∧ Below w.heap.size w w' ∧ (∀ b off, X = some ⟨b, off, none⟩ → w.heap.size ≤ b) ∧ (∀ b off, a ≠ [] → B = some ⟨b, off, none⟩ → w.heap.size ≤ b) ∧ ms.length + 1 ≤ c ∧ c ≤ maxLen)
theorem putL_msgs {b : Nat} {A : Option Addr} {l : List Msg} (hA : ∀ b' off, l ≠ [] → A = some ⟨b', off, none⟩ → b' ≠ b) (hm : ∀ m ∈ l, ∀ b' off, m.a ≠ [] → m.A = some ⟨b', off, none⟩ → b' ≠ b) (vs : List Value) (w : World) (o : Nat) (h : Msgs w A l) : Msgs (putL w b o vs) A l := fun i z hz => by
  obtain ⟨b', off, cs, e, hlt, hl, hc, h1, h2, h3, h4⟩ := h i z hz
  have hne : b' ≠ b := hA b' off (fun e0 => by rw [e0] at hz; simp at hz) e
  refine ⟨b', off, cs, e, by rw [putL_size]; exact hlt, hl, fun j hj => ?_, h1, h2, h3, putL_ints (hm z (List.mem_of_getElem? hz)) vs w o h4⟩
  have hb := putL_below (B := b) (w0 := w) (Nat.le_refl _) vs w o (Below.refl _ _)
  have : ∀ (vs : List Value) (w : World) (o : Nat), (putL w b o vs).cell? ⟨b', off + (i * 5 + j), none⟩ = w.cell? ⟨b', off + (i * 5 + j), none⟩ := by
    intro vs
    induction vs with
    | nil => intro w o; rfl
    | cons v r ih => intro w o; rw [putL, ih]; exact World.cell?_setCell_other w ⟨b, o, none⟩ _ v (fun e => by injection e with e1 _; exact hne e1.symm)
  rw [this]; exact hc j hj
theorem lastT_at {l : List Msg} {k : Nat} {m : Msg} (hk : l.length = k + 1) (h : l[k]? = some m) : lastT l = m.t := by
  unfold lastT
  rw [List.getLast?_eq_getElem?, hk, Nat.add_sub_cancel, h]
theorem msgB_seq {p s s' t k : Int} {A B : Option Addr} {c d : Nat} {a : List Int} (h : msgB ⟨p, s, t, k, A, c, a⟩ = true) (hs : 1 ≤ s' ∧ s' ≤ 5000) : msgB ⟨p, s', t, k, B, d, a⟩ = true := by
  rw [msgB_iff] at h ⊢
  exact ⟨h.1, hs, h.2.2⟩
set_option maxRecDepth 100000 in
set_option maxHeartbeats 32000000 in
theorem jappend_any (A : Option Addr) (cp n : Nat) (ms : List Msg) (h : Hd) (party time kind : Int) (B : Option Addr) (cb an : Nat) (a : List Int) (sec once : Int) (hln : ms.length = n) (hn : n ≤ 1000) (hf : HFit h)
    (hp : -9223372036854775808 ≤ party ∧ party ≤ 9223372036854775807) (htm : -9223372036854775808 ≤ time ∧ time ≤ 9223372036854775807) (hk : -9223372036854775808 ≤ kind ∧ kind ≤ 9223372036854775807) (hla : a.length = an) (han : an ≤ 100000) (w : World) (hl : Msgs w A ms) (hib : IntsAt w B .i64 a) (ht : Tab w) (hc : Cnt w) :
    Calls Tryd.prog 20 #[.agg #[.slice A n cp, .int .i64 h.p, .int .i64 h.n, .int .u64 h.c, .int .i64 h.e, .int .i64 h.s], .int .i64 party, .int .i64 time, .int .i64 kind, .slice B an cb, .int .i64 sec, .int .i64 once] w (AppAt ms h party time kind a sec once w) := by
  obtain ⟨i0, hi0, hz0, hz1, hz2⟩ := info_parts infoMs
  obtain ⟨w0, hw0⟩ : ∃ W, (w.alloc (.cells #[.slice A n cp, .int .i64 h.p, .int .i64 h.n, .int .u64 h.c, .int .i64 h.e, .int .i64 h.s] 35)).alloc (.cells #[.slice none 0 0, .int .i64 0, .int .i64 0, .int .u64 0, .int .i64 0, .int .i64 0] 35) = W := ⟨_, rfl⟩
  have bb0 : Below w.heap.size w w0 := by rw [← hw0]; exact ((Below.refl _ _).alloc (Nat.le_refl _) _).alloc (by simp) _
  have k0 : Blk w0 w.heap.size #[.slice A n cp, .int .i64 h.p, .int .i64 h.n, .int .u64 h.c, .int .i64 h.e, .int .i64 h.s] := by rw [← hw0]; exact (blk_new rfl).alloc _
  have r0 : Blk w0 (w.heap.size + 1) #[.slice none 0 0, .int .i64 0, .int .i64 0, .int .u64 0, .int .i64 0, .int .i64 0] := by rw [← hw0]; exact blk_new (by simp)
  have l0 := hl.below bb0
  have t0 := ht.below bb0
  have m0 := hc.below bb0
  have ib0 := hib.below bb0
  have s0 : w.heap.size + 1 < w0.heap.size := by rw [← hw0]; simp
  have q1 := fun W h => jclone_any B cb an a hla W h han
  unfold CloneJ at q1
  have q2 := fun W h => sign_all sec once none 0 0 [] rfl W IntsAt.nil (by omega) (fun x hx => by cases hx) h
  generalize sgnE sec once [] = E0 at *
  generalize sgnS sec once [] = S0 at *
  have q4 := fun W h1 h2 h3 => jformed_any A cp n ms h party hln (by omega) hf hp W h1 h2 h3
  have q5 := fun W h => jcloneM_any A cp n ms hln W h (by omega)
  unfold CloneM at q5
  have ⟨H_hi0, H_hz0, H_hz1, H_hz2, H_hw0, H_bb0, H_k0, H_r0⟩ := hid8 hi0 hz0 hz1 hz2 hw0 bb0 k0 r0; clear hi0 hz0 hz1 hz2 hw0 bb0 k0 r0; have ⟨H_l0, H_t0, H_m0, H_ib0, H_hl, H_ht, H_hc, H_hib⟩ := hid8 l0 t0 m0 ib0 hl ht hc hib; clear l0 t0 m0 ib0 hl ht hc hib; have ⟨H_hln, H_hla, H_hf, H_q1, H_q2, H_q4, H_q5⟩ := hid7 hln hla hf q1 q2 q4 q5; clear hln hla hf q1 q2 q4 q5
  go_enter Tryd.func20, Tryd.ntmps20
  go_upto_region 1 with (fail)
  rw [H_hw0.out]
  have v0 := (H_k0.out 0 _ rfl).at
  have v1 := (H_k0.out 1 _ rfl).at
  have v2 := (H_k0.out 2 _ rfl).at
  have v3 := (H_k0.out 3 _ rfl).at
  have v4 := (H_k0.out 4 _ rfl).at
  have v5 := (H_k0.out 5 _ rfl).at
  go_wp2_with fail
  (with_reducible refine (H_q1.out _ ?_).mono ?_)
  · exact H_ib0.out.below (show Below w0.heap.size w0 _ from belt)
  rintro e w1 ⟨A1, c1, rfl, o1, b1⟩
  have c1 : Below w0.heap.size w0 w1 := Below.trans belt (b1.mono omh)
  have s1 := c1.size
  have bb1 := H_bb0.out.trans (c1.mono H_bb0.out.size)
  have k1 := H_k0.out.below c1
  have r1 := H_r0.out.below c1
  have l1 := H_l0.out.below c1
  have t1 := H_t0.out.below c1
  have m1 := H_m0.out.below c1
  have ⟨H_b1, H_c1, H_bb1, H_k1, H_r1, H_l1, H_t1, H_m1⟩ := hid8 b1 c1 bb1 k1 r1 l1 t1 m1; clear b1 c1 bb1 k1 r1 l1 t1 m1
  clear v0 v1 v2 v3 v4 v5
  have cap1 := o1.cap
  have i1 := o1.ints
  have hA1 : ∀ b' off, a ≠ [] → A1 = some ⟨b', off, none⟩ → w0.heap.size ≤ b' ∧ b' < w1.heap.size := fun b' off _ e => o1.lt b' (by rw [e]; rfl)
  have q3 := fun W h1 h2 => jright_any ⟨party, 1, time, kind, A1, c1, a⟩ ⟨hp, by show (-9223372036854775808 : Int) ≤ 1 ∧ (1 : Int) ≤ _; omega, htm, hk, by show a.length ≤ _; rw [H_hla.out]; omega⟩ W h1 h2
  have e3 : (Msg.mk party 1 time kind A1 c1 a).cells.toArray = #[.int .i64 party, .int .i64 1, .int .i64 time, .int .i64 kind, .slice A1 an c1] := by rw [← H_hla.out]; rfl
  rw [e3] at q3
  have eM : msgB ⟨party, 1, time, kind, A1, c1, a⟩ = msgB ⟨party, 1, time, kind, none, 0, a⟩ := rfl
  rw [eM] at q3
  clear e3 eM
  generalize hR1 : msgB ⟨party, 1, time, kind, none, 0, a⟩ = R1 at *
  generalize hR2 : frmB ms h party = R2 at *
  generalize hR0 : (wthB sec 1 && wthB once 1) = R0 at *
  have ⟨H_o1, H_i1, H_hA1, H_q3, H_hR0, H_hR1, H_hR2⟩ := hid7 o1 i1 hA1 q3 hR0 hR1 hR2; clear o1 i1 hA1 q3 hR0 hR1 hR2
  go_upto_region 3 with (fail)
  obtain ⟨w2, hw2⟩ : ∃ W, w1.alloc (.cells #[.int .i64 party, .int .i64 1, .int .i64 time, .int .i64 kind, .slice A1 an c1] 47) = W := ⟨_, rfl⟩
  rw [hw2]
  have d2 : Below w1.heap.size w1 w2 := by rw [← hw2]; exact (Below.refl _ _).alloc (Nat.le_refl _) _
  have y2 : Blk w2 w1.heap.size #[.int .i64 party, .int .i64 1, .int .i64 time, .int .i64 kind, .slice A1 an c1] := by rw [← hw2]; exact blk_new rfl
  have bb2 := H_bb1.out.trans (d2.mono H_bb1.out.size)
  have k2 := H_k1.out.below d2
  have r2 := H_r1.out.below d2
  have l2 := H_l1.out.below d2
  have t2 := H_t1.out.below d2
  have m2 := H_m1.out.below d2
  have i2 := H_i1.out.below d2
  have s2 : w1.heap.size < w2.heap.size := by rw [← hw2]; simp
  have ⟨H_hw2, H_d2, H_y2, H_bb2, H_k2, H_r2, H_l2, H_t2⟩ := hid8 hw2 d2 y2 bb2 k2 r2 l2 t2; clear hw2 d2 y2 bb2 k2 r2 l2 t2; have ⟨H_m2, H_i2⟩ := hid2 m2 i2; clear m2 i2
  go_wp2_with fail
  (with_reducible refine (H_q2.out _ ?_).mono ?_)
  · exact H_t2.out.below (show Below w2.heap.size w2 _ from belt)
  rintro e w3 ⟨rfl, b3⟩
  have c3 : Below w2.heap.size w2 w3 := Below.trans belt (b3.mono omh)
  have s3 := c3.size
  have bb3 := H_bb2.out.trans (c3.mono H_bb2.out.size)
  have k3 := H_k2.out.below c3
  have r3 := H_r2.out.below c3
  have l3 := H_l2.out.below c3
  have t3 := H_t2.out.below c3
  have m3 := H_m2.out.below c3
  have y3 := H_y2.out.below c3
  have i3 := H_i2.out.below c3
  have ⟨H_b3, H_c3, H_bb3, H_k3, H_r3, H_l3, H_t3, H_m3⟩ := hid8 b3 c3 bb3 k3 r3 l3 t3 m3; clear b3 c3 bb3 k3 r3 l3 t3 m3; have ⟨H_y3, H_i3⟩ := hid2 y3 i3; clear y3 i3
  go_upto_region 4 with (fail)
  obtain ⟨w4, hw4⟩ : ∃ W, w3.alloc (.cells #[.int .i64 E0, .int .i64 S0] 31) = W := ⟨_, rfl⟩
  rw [hw4]
  have d4 : Below w3.heap.size w3 w4 := by rw [← hw4]; exact (Below.refl _ _).alloc (Nat.le_refl _) _
  have bb4 := H_bb3.out.trans (d4.mono H_bb3.out.size)
  have k4 := H_k3.out.below d4
  have r4 := H_r3.out.below d4
  have l4 := H_l3.out.below d4
  have t4 := H_t3.out.below d4
  have m4 := H_m3.out.below d4
  have y4 := H_y3.out.below d4
  have i4 := H_i3.out.below d4
  have s4 := d4.size
  have ⟨H_hw4, H_d4, H_bb4, H_k4, H_r4, H_l4, H_t4, H_m4⟩ := hid8 hw4 d4 bb4 k4 r4 l4 t4 m4; clear hw4 d4 bb4 k4 r4 l4 t4 m4; have ⟨H_y4, H_i4⟩ := hid2 y4 i4; clear y4 i4
  have no : ∀ P : Prop, ¬ P → ((R0 = true ∧ R1 = true ∧ R2 = true) → P) → apE ms h party time kind a sec once = 1 := fun P h1 h2 => by
    rw [apE, H_hR0.out, H_hR1.out, H_hR2.out, if_neg (fun h => h1 (h2 h))]
  cases R0 with
  | false =>
    have eE := no False id (fun h => by cases h.1)
    have e0 : errV false = 1 := rfl
    have ⟨H_eE, H_no⟩ := hid2 eE no; clear eE no
    have z0 := (H_r4.out 0 _ rfl).at
    have z1 := (H_r4.out 1 _ rfl).at
    have z2 := (H_r4.out 2 _ rfl).at
    have z3 := (H_r4.out 3 _ rfl).at
    have z4 := (H_r4.out 4 _ rfl).at
    have z5 := (H_r4.out 5 _ rfl).at
    have f0 := (H_r4.out 0 _ rfl).free
    have f1 := (H_r4.out 1 _ rfl).free
    have f2 := (H_r4.out 2 _ rfl).free
    have f3 := (H_r4.out 3 _ rfl).free
    have f4 := (H_r4.out 4 _ rfl).free
    have f5 := (H_r4.out 5 _ rfl).free
    have lr := (H_r4.out 0 _ rfl).lt
    have gw9 : Below w.heap.size w (putL w4 (w.heap.size + 1) 0 [.slice none 0 0, .int .i64 0, .int .i64 0, .int .u64 0, .int .i64 0, .int .i64 0]) := putL_below (by omega) _ _ _ H_bb4.out
    simp only [putL, Nat.reduceAdd] at gw9
    have H_gw9 := Lib.hid gw9; clear gw9
    go_wp2_with fail
    refine bodyPost_ret (v := .tuple #[.agg #[.slice none 0 0, .int .i64 0, .int .i64 0, .int .u64 0, .int .i64 0, .int .i64 0], .int .i64 1]) (by simp [results, Tryd.results20, go_sem, *]) rfl (Or.inl ⟨by rw [H_eE.out]; decide, by rw [H_eE.out]; rfl, H_gw9.out⟩)
  | true =>
    have e0 : errV true = 0 := rfl
    have u0 := (H_y4.out 0 _ rfl).at
    have u1 := (H_y4.out 1 _ rfl).at
    have u2 := (H_y4.out 2 _ rfl).at
    have u3 := (H_y4.out 3 _ rfl).at
    have u4 := (H_y4.out 4 _ rfl).at
    go_wp2_with fail
    (with_reducible refine (H_q3.out _ ?_ ?_).mono ?_)
    · exact H_i4.out.below (show Below w4.heap.size w4 _ from belt)
    · exact H_m4.out.below (show Below w4.heap.size w4 _ from belt)
    rintro e w5 ⟨rfl, b5⟩
    have c5 : Below w4.heap.size w4 w5 := Below.trans belt (b5.mono omh)
    have s5 := c5.size
    have bb5 := H_bb4.out.trans (c5.mono H_bb4.out.size)
    have k5 := H_k4.out.below c5
    have r5 := H_r4.out.below c5
    have l5 := H_l4.out.below c5
    have t5 := H_t4.out.below c5
    have m5 := H_m4.out.below c5
    have y5 := H_y4.out.below c5
    have i5 := H_i4.out.below c5
    have ⟨H_b5, H_c5, H_bb5, H_k5, H_r5, H_l5, H_t5, H_m5⟩ := hid8 b5 c5 bb5 k5 r5 l5 t5 m5; clear b5 c5 bb5 k5 r5 l5 t5 m5; have ⟨H_y5, H_i5⟩ := hid2 y5 i5; clear y5 i5
    clear u0 u1 u2 u3 u4
    cases R1 with
    | false =>
      have eE := no False id (fun h => by cases h.2.1)
      have ⟨H_eE, H_no⟩ := hid2 eE no; clear eE no
      have z0 := (H_r5.out 0 _ rfl).at
      have z1 := (H_r5.out 1 _ rfl).at
      have z2 := (H_r5.out 2 _ rfl).at
      have z3 := (H_r5.out 3 _ rfl).at
      have z4 := (H_r5.out 4 _ rfl).at
      have z5 := (H_r5.out 5 _ rfl).at
      have f0 := (H_r5.out 0 _ rfl).free
      have f1 := (H_r5.out 1 _ rfl).free
      have f2 := (H_r5.out 2 _ rfl).free
      have f3 := (H_r5.out 3 _ rfl).free
      have f4 := (H_r5.out 4 _ rfl).free
      have f5 := (H_r5.out 5 _ rfl).free
      have lr := (H_r5.out 0 _ rfl).lt
      have gw9 : Below w.heap.size w (putL w5 (w.heap.size + 1) 0 [.slice none 0 0, .int .i64 0, .int .i64 0, .int .u64 0, .int .i64 0, .int .i64 0]) := putL_below (by omega) _ _ _ H_bb5.out
      simp only [putL, Nat.reduceAdd] at gw9
      have H_gw9 := Lib.hid gw9; clear gw9
      go_wp2_with fail
      refine bodyPost_ret (v := .tuple #[.agg #[.slice none 0 0, .int .i64 0, .int .i64 0, .int .u64 0, .int .i64 0, .int .i64 0], .int .i64 1]) (by simp [results, Tryd.results20, go_sem, *]) rfl (Or.inl ⟨by rw [H_eE.out]; decide, by rw [H_eE.out]; rfl, H_gw9.out⟩)
    | true =>
      have v0 := (H_k5.out 0 _ rfl).at
      have v1 := (H_k5.out 1 _ rfl).at
      have v2 := (H_k5.out 2 _ rfl).at
      have v3 := (H_k5.out 3 _ rfl).at
      have v4 := (H_k5.out 4 _ rfl).at
      have v5 := (H_k5.out 5 _ rfl).at
      go_wp2_with fail
      (with_reducible refine (H_q4.out _ ?_ ?_ ?_).mono ?_)
      · exact H_l5.out.below (show Below w5.heap.size w5 _ from belt)
      · exact H_t5.out.below (show Below w5.heap.size w5 _ from belt)
      · exact H_m5.out.below (show Below w5.heap.size w5 _ from belt)
      rintro e w6 ⟨rfl, b6⟩
      have c6 : Below w5.heap.size w5 w6 := Below.trans belt (b6.mono omh)
      have s6 := c6.size
      have bb6 := H_bb5.out.trans (c6.mono H_bb5.out.size)
      have k6 := H_k5.out.below c6
      have r6 := H_r5.out.below c6
      have l6 := H_l5.out.below c6
      have t6 := H_t5.out.below c6
      have m6 := H_m5.out.below c6
      have y6 := H_y5.out.below c6
      have i6 := H_i5.out.below c6
      have ⟨H_b6, H_c6, H_bb6, H_k6, H_r6, H_l6, H_t6, H_m6⟩ := hid8 b6 c6 bb6 k6 r6 l6 t6 m6; clear b6 c6 bb6 k6 r6 l6 t6 m6; have ⟨H_y6, H_i6⟩ := hid2 y6 i6; clear y6 i6
      clear v0 v1 v2 v3 v4 v5
      cases R2 with
      | false =>
        have eE := no False id (fun h => by cases h.2.2)
        have ⟨H_eE, H_no⟩ := hid2 eE no; clear eE no
        have z0 := (H_r6.out 0 _ rfl).at
        have z1 := (H_r6.out 1 _ rfl).at
        have z2 := (H_r6.out 2 _ rfl).at
        have z3 := (H_r6.out 3 _ rfl).at
        have z4 := (H_r6.out 4 _ rfl).at
        have z5 := (H_r6.out 5 _ rfl).at
        have f0 := (H_r6.out 0 _ rfl).free
        have f1 := (H_r6.out 1 _ rfl).free
        have f2 := (H_r6.out 2 _ rfl).free
        have f3 := (H_r6.out 3 _ rfl).free
        have f4 := (H_r6.out 4 _ rfl).free
        have f5 := (H_r6.out 5 _ rfl).free
        have lr := (H_r6.out 0 _ rfl).lt
        have gw9 : Below w.heap.size w (putL w6 (w.heap.size + 1) 0 [.slice none 0 0, .int .i64 0, .int .i64 0, .int .u64 0, .int .i64 0, .int .i64 0]) := putL_below (by omega) _ _ _ H_bb6.out
        simp only [putL, Nat.reduceAdd] at gw9
        have H_gw9 := Lib.hid gw9; clear gw9
        go_wp2_with fail
        refine bodyPost_ret (v := .tuple #[.agg #[.slice none 0 0, .int .i64 0, .int .i64 0, .int .u64 0, .int .i64 0, .int .i64 0], .int .i64 1]) (by simp [results, Tryd.results20, go_sem, *]) rfl (Or.inl ⟨by rw [H_eE.out]; decide, by rw [H_eE.out]; rfl, H_gw9.out⟩)
      | true =>
        clear no
        have n5 : ((n : Int) == 5000) = false := by rw [beq_eq_false_iff_ne]; omega
        have eE : apE ms h party time kind a sec once = if ms ≠ [] ∧ time < lastT ms then 6 else 0 := by
          rw [apE, if_pos ⟨H_hR0.out, H_hR1.out, H_hR2.out⟩, H_hln.out, if_neg (by omega)]
        obtain ⟨L, hL⟩ : ∃ L : Bool, L = decide (ms ≠ [] ∧ time < lastT ms) := ⟨_, rfl⟩
        go_upto_region 8 with (fail)
        go_cut [55] from 56 to 68 (fun c0 wx => c0 = .bool L ∧ w6 = wx)
        case first =>
          rcases Nat.eq_zero_or_pos n with h0 | h0
          · have hnil : ms = [] := List.eq_nil_of_length_eq_zero (H_hln.out.trans h0)
            have hLf : L = false := by rw [hL]; simp [hnil]
            have g0 : ¬ (0 : Int) < (n : Int) := by omega
            have ⟨H_h0, H_hLf, H_hL, H_eE⟩ := hid4 h0 hLf hL eE; clear h0 hLf hL eE
            go_wp2_with fail
            go_meet
            case rel => exact ⟨by rw [H_hLf.out], rfl⟩
          · obtain ⟨k, hk1⟩ : ∃ k, n = k + 1 := ⟨n - 1, by omega⟩
            obtain ⟨z, hz⟩ : ∃ z, ms[k]? = some z := ⟨_, List.getElem?_eq_getElem (by rw [H_hln.out]; omega)⟩
            obtain ⟨b, off, hA, hbl, _, _, _, zc, _, _⟩ := H_l6.out.at hz
            have hlt := lastT_at (H_hln.out.trans hk1) hz
            have hne : ms ≠ [] := by intro e; rw [e] at hz; simp at hz
            generalize z.t = zt at *
            have wk : IntKind.i64.wrap ((n : Int) - 1) = (k : Int) := by rw [IntWalk.i64_in _ (by omega)]; omega
            have wk2 : (n : Int) - 1 = (k : Int) := by omega
            have g0 : (0 : Int) < (n : Int) := by omega
            have g1 : (k : Int) < (n : Int) := by omega
            have g2 : (0 : Int) ≤ (k : Int) := by omega
            subst hA
            by_cases hlt2 : time < zt
            · have hLf : L = true := by rw [hL]; simp [hne, hlt, hlt2]
              have ⟨H_h0, H_hLf, H_hL, H_eE, H_hk1, H_hz, H_hne⟩ := hid7 h0 hLf hL eE hk1 hz hne; clear h0 hLf hL eE hk1 hz hne
              have v0 := (H_k6.out 0 _ rfl).at
              have v1 := (H_k6.out 1 _ rfl).at
              have v2 := (H_k6.out 2 _ rfl).at
              have v3 := (H_k6.out 3 _ rfl).at
              have v4 := (H_k6.out 4 _ rfl).at
              have v5 := (H_k6.out 5 _ rfl).at
              go_wp2_with fail
              go_meet
              case rel => exact ⟨by rw [H_hLf.out], rfl⟩
            · have hLf : L = false := by rw [hL]; simp [hne, hlt]; omega
              have ⟨H_h0, H_hLf, H_hL, H_eE, H_hk1, H_hz, H_hne⟩ := hid7 h0 hLf hL eE hk1 hz hne; clear h0 hLf hL eE hk1 hz hne
              have v0 := (H_k6.out 0 _ rfl).at
              have v1 := (H_k6.out 1 _ rfl).at
              have v2 := (H_k6.out 2 _ rfl).at
              have v3 := (H_k6.out 3 _ rfl).at
              have v4 := (H_k6.out 4 _ rfl).at
              have v5 := (H_k6.out 5 _ rfl).at
              go_wp2_with fail
              go_meet
              case rel => exact ⟨by rw [H_hLf.out], rfl⟩
        case rest =>
          obtain ⟨rfl, hw_⟩ := hcut
          subst hw_
          cases L with
          | true =>
            rw [if_pos (of_decide_eq_true hL.symm)] at eE
            have ⟨H_eE, H_hL⟩ := hid2 eE hL; clear eE hL
            have z0 := (H_r6.out 0 _ rfl).at
            have z1 := (H_r6.out 1 _ rfl).at
            have z2 := (H_r6.out 2 _ rfl).at
            have z3 := (H_r6.out 3 _ rfl).at
            have z4 := (H_r6.out 4 _ rfl).at
            have z5 := (H_r6.out 5 _ rfl).at
            have f0 := (H_r6.out 0 _ rfl).free
            have f1 := (H_r6.out 1 _ rfl).free
            have f2 := (H_r6.out 2 _ rfl).free
            have f3 := (H_r6.out 3 _ rfl).free
            have f4 := (H_r6.out 4 _ rfl).free
            have f5 := (H_r6.out 5 _ rfl).free
            have lr := (H_r6.out 0 _ rfl).lt
            have gw9 : Below w.heap.size w (putL w6 (w.heap.size + 1) 0 [.slice none 0 0, .int .i64 0, .int .i64 0, .int .u64 0, .int .i64 0, .int .i64 0]) := putL_below (by omega) _ _ _ H_bb6.out
            simp only [putL, Nat.reduceAdd] at gw9
            have H_gw9 := Lib.hid gw9; clear gw9
            go_wp2_with fail
            refine bodyPost_ret (v := .tuple #[.agg #[.slice none 0 0, .int .i64 0, .int .i64 0, .int .u64 0, .int .i64 0, .int .i64 0], .int .i64 6]) (by simp [results, Tryd.results20, go_sem, *]) rfl (Or.inl ⟨by rw [H_eE.out]; decide, by rw [H_eE.out]; rfl, H_gw9.out⟩)
          | false =>
            rw [if_neg (of_decide_eq_false hL.symm)] at eE
            have hv := okL_all (by have := H_hR2.out; simp only [frmB, Bool.and_eq_true] at this; exact this.1.2)
            obtain ⟨NM, hNM⟩ : ∃ x, x = newM party n time kind A1 c1 a := ⟨_, rfl⟩
            have nmF : MFit NM := by rw [hNM]; exact ⟨hp, ⟨by show _ ≤ (n : Int) + 1; omega, by show (n : Int) + 1 ≤ _; omega⟩, htm, hk, by show a.length ≤ _; rw [H_hla.out]; omega⟩
            have nmB : msgB NM = true := by rw [hNM]; exact msgB_seq H_hR1.out ⟨by omega, by omega⟩
            have nmc : NM.a.length ≤ NM.c := by rw [hNM]; exact H_o1.out.cap
            have hv2 : ∀ m ∈ ms ++ [NM], msgB m = true := fun m hm => by
              rcases List.mem_append.1 hm with hm | hm
              · exact hv m hm
              · rw [List.mem_singleton] at hm; rw [hm]; exact nmB
            have eN : NM.cells = [.int .i64 party, .int .i64 ((n : Int) + 1), .int .i64 time, .int .i64 kind, .slice A1 an c1] := by rw [hNM, ← H_hla.out]; rfl
            have wn : IntKind.i64.wrap ((n : Int) + 1) = (n : Int) + 1 := IntWalk.i64_in _ (by omega)
            have ⟨H_eE, H_hL, H_hv, H_hNM, H_nmF, H_nmB, H_nmc, H_hv2⟩ := hid8 eE hL hv hNM nmF nmB nmc hv2; clear eE hL hv hNM nmF nmB nmc hv2; have H_eN := Lib.hid eN; clear eN
            have u0 := (H_y6.out 0 _ rfl).at
            have u1 := (H_y6.out 1 _ rfl).at
            have u2 := (H_y6.out 2 _ rfl).at
            have u3 := (H_y6.out 3 _ rfl).at
            have u4 := (H_y6.out 4 _ rfl).at
            have f0 := (H_y6.out 0 _ rfl).free
            have f1 := (H_y6.out 1 _ rfl).free
            have f2 := (H_y6.out 2 _ rfl).free
            have f3 := (H_y6.out 3 _ rfl).free
            have f4 := (H_y6.out 4 _ rfl).free
            go_upto_region 11 with (fail)
            obtain ⟨w7, hw7⟩ : ∃ W, w6.setCell ⟨w1.heap.size, 1, none⟩ (.int .i64 ((n : Int) + 1)) = W := ⟨_, rfl⟩
            rw [hw7]
            have lu := H_bb1.out.size
            have hs7 : w7.heap.size = w6.heap.size := by rw [← hw7]; simp
            have bb7 : Below w.heap.size w w7 := by rw [← hw7]; exact H_bb6.out.setCell (by simp; omega) _
            have y7 : Blk w7 w1.heap.size #[.int .i64 party, .int .i64 ((n : Int) + 1), .int .i64 time, .int .i64 kind, .slice A1 an c1] := by rw [← hw7]; exact H_y6.out.set 1 _ (by simp)
            have k7 : Blk w7 w.heap.size #[.slice A n cp, .int .i64 h.p, .int .i64 h.n, .int .u64 h.c, .int .i64 h.e, .int .i64 h.s] := by rw [← hw7]; exact H_k6.out.far (by omega) _
            have r7 : Blk w7 (w.heap.size + 1) #[.slice none 0 0, .int .i64 0, .int .i64 0, .int .u64 0, .int .i64 0, .int .i64 0] := by rw [← hw7]; exact H_r6.out.far (by omega) _
            have i7 : IntsAt w7 A1 .i64 a := by rw [← hw7]; exact putL_ints (fun b' off h1 h2 => by have := H_hA1.out b' off h1 h2; omega) [.int .i64 ((n : Int) + 1)] w6 1 H_i6.out
            have l7 := H_hl.out.below bb7
            have t7 := H_ht.out.below bb7
            have z7 := (y7 0 _ rfl).lt
            have z7k := (k7 0 _ rfl).lt
            have z7r := (r7 0 _ rfl).lt
            have nmi : IntsAt w7 NM.A .i64 NM.a := by rw [H_hNM.out]; exact i7
            have hs7b : w6.heap.size ≤ w7.heap.size := by omega
            clear hs7
            clear u0 u1 u2 u3 u4
            clear f0 f1 f2 f3 f4
            have ⟨H_hw7, H_bb7, H_y7, H_k7, H_r7, H_i7, H_l7, H_t7⟩ := hid8 hw7 bb7 y7 k7 r7 i7 l7 t7; clear hw7 bb7 y7 k7 r7 i7 l7 t7; have H_nmi := Lib.hid nmi; clear nmi
            have v0 := (H_k7.out 0 _ rfl).at
            have v1 := (H_k7.out 1 _ rfl).at
            have v2 := (H_k7.out 2 _ rfl).at
            have v3 := (H_k7.out 3 _ rfl).at
            have v4 := (H_k7.out 4 _ rfl).at
            have v5 := (H_k7.out 5 _ rfl).at
            have u0 := (H_y7.out 0 _ rfl).at
            have u1 := (H_y7.out 1 _ rfl).at
            have u2 := (H_y7.out 2 _ rfl).at
            have u3 := (H_y7.out 3 _ rfl).at
            have u4 := (H_y7.out 4 _ rfl).at
            go_cut [20] from 73 to 78 (fun c0 wx => ∃ (X : Option Addr) (c : Nat), c0 = .slice X (n + 1) c ∧ OwnM wx w7.heap.size X c (ms ++ [NM]) ∧ Msgs wx X (ms ++ [NM]) ∧ Below w7.heap.size w7 wx)
            case first =>
              refine wp_region_held_drew (S := (fun W => (∀ b o, b < w7.heap.size → W.cell? ⟨b, o, none⟩ = w7.cell? ⟨b, o, none⟩) ∧ Below w7.heap.size w7 W)) (by kernel_rfl) ?_ (fun hHeld => ?_)
              · (try dsimp only); (first | (refine ext_mk ?_; exact belt))
              refine take_at (i := 0) (some 73) rfl rfl (by kernel_rfl) (fun _ _ _ h => h) (by rfl) (v := ?_) ?_ (by assumption) ?_
              rotate_left
              · intro W hSw; (try dsimp only at hSw); go_simp; (try with_reducible rfl)
              (try simp only [apz])
              refine take_at (i := 1) (some 74) rfl rfl (by kernel_rfl) (fun _ _ _ h => h) (by rfl) (v := ?_) ?_ (by assumption) ?_
              rotate_left
              · intro W hSw; (try dsimp only at hSw); go_simp; (try with_reducible rfl)
              (try simp only [apz])
              refine take_at (i := 3) (some 76) rfl rfl (by kernel_rfl) (fun _ _ _ h => h) (by rfl) (v := ?_) ?_ (by assumption) ?_
              rotate_left
              · intro W hSw; (try dsimp only at hSw); go_simp; (try with_reducible rfl)
              (try simp only [apz])
              refine wpAnyH_ready (rs := [2, 4]) (by kernel_rfl) (by simp) ?_
              refine AllReadyH.cons rfl (fun K hK => ?_) (AllReadyH.cons rfl (fun K hK => ?_) AllReadyH.nil)
              · go_simp
                (go_at_call 41; (with_reducible refine (H_q5.out _ ?_).mono ?_); (focus (exact H_l7.out.below (And.right (by assumption : _ ∧ Below w7.heap.size w7 _)))); rintro e w8 ⟨A8, c8, rfl, o8, hbw8⟩; have gw8 := Below.trans (And.right (by assumption : _ ∧ Below w7.heap.size w7 _)) (hbw8.mono (Below.size (And.right (by assumption : _ ∧ Below w7.heap.size w7 _)))); have gsw8 := gw8.size; have hcf := bcell hbw8; have hcw8 := hcf.1; have hfw8 := hcf.2; have hsw8 := hbw8.size; (try simp only [World.size_alloc, World.heap_drewN, heap_drew] at hsw8); have H_hbw8 := Lib.hid hbw8; clear hbw8 hcf; (try have hzw8 : w7.heap.size < w8.heap.size := by omega))
                refine hK.out _ _ ?_ (fun hHeld => ?_)
                · (try dsimp only); (first | (refine ext_mk ?_; exact belt))
                clear hK K
                (try simp only [apz])
                refine wpAnyH_ready (rs := [4]) (by kernel_rfl) (by simp) ?_
                refine AllReadyH.cons rfl (fun K hK => ?_) AllReadyH.nil
                go_simp
                refine hK.out _ _ ?_ (fun hHeld => ?_)
                · (try dsimp only); (first | (refine ext_mk ?_; exact belt))
                clear hK K
                (try simp only [apz])
                refine wpAnyH_ready (rs := [5]) (by kernel_rfl) (by simp) ?_
                refine AllReadyH.cons rfl (fun K hK => ?_) AllReadyH.nil
                refine step_app_gen (At := MsAt) _ (by rfl) (.tmp 75) (.tmp 77) 28 (by rfl) i0 _ 56 Tryd.underlying28 H_hi0.out H_hz0.out H_hz1.out H_hz2.out rfl (by decide) Msg.cells_len Msg.cells_one (fun _ _ h => h.1) n H_hln.out (by rfl) (by exact (OwnRows.base_le (base' := w7.heap.size) o8 (by simp)).alloc _) (some ⟨w8.heap.size, 0, none⟩) 1 1 [NM] rfl (by rfl) (by exact rows_new1 (At := MsAt) w8 NM _ _ _ rfl rfl ⟨H_eN.out.symm, H_nmF.out, H_nmc.out, (H_nmi.out.below gw8).below ((Below.refl _ _).alloc (Nat.le_refl _) _)⟩) (by unfold maxLen; omega) (by omega) omg ?_
                intro X9 c9 w9 o9 g9 _
                have b9 : Below w7.heap.size w7 w9 := OwnRows.grow (w0 := w7) ((OwnRows.base_le (base' := w7.heap.size) o8 (by simp)).alloc _) (And.right (by assumption)) g9
                refine hK.out _ _ ?_ (fun hHeld => ?_)
                · (try dsimp only); (first | (refine ext_mk ?_; exact belt))
                clear hK K
                (try simp only [apz])
                refine wpAnyH_ready (rs := [6]) (by kernel_rfl) (by simp) ?_
                refine AllReadyH.cons rfl (fun K hK => ?_) AllReadyH.nil
                go_simp
                refine hK.out _ _ ?_ (fun hHeld => ?_)
                · (try dsimp only); (first | (refine ext_mk ?_; exact belt))
                clear hK K
                (try simp only [apz])
                refine wpAnyH_done (by kernel_rfl) ?_ _
                have ms9 : Msgs w9 X9 (ms ++ [NM]) := OwnM.msgs o9 (fun m hm => by
                  rcases List.mem_append.1 hm with hm | hm
                  · exact (H_l7.out.below b9).all m hm
                  · rw [List.mem_singleton] at hm; rw [hm]; exact ⟨H_nmF.out, H_nmc.out, H_nmi.out.below b9⟩)
                have ⟨H_o9, H_ms9, H_b9⟩ := hid3 o9 ms9 b9; clear o9 ms9 b9
                go_wp2_with fail
                go_meet
                (case rel => exact ⟨X9, c9, rfl, H_o9.out, H_ms9.out, H_b9.out⟩)
              · go_simp
                refine hK.out _ _ ?_ (fun hHeld => ?_)
                · (try dsimp only); (first | (refine ext_mk ?_; exact belt))
                clear hK K
                (try simp only [apz])
                refine wpAnyH_ready (rs := [2]) (by kernel_rfl) (by simp) ?_
                refine AllReadyH.cons rfl (fun K hK => ?_) AllReadyH.nil
                go_simp
                (go_at_call 41; (with_reducible refine (H_q5.out _ ?_).mono ?_); (focus (exact H_l7.out.below (And.right (by assumption : _ ∧ Below w7.heap.size w7 _)))); rintro e w8 ⟨A8, c8, rfl, o8, hbw8⟩; have gw8 := Below.trans (And.right (by assumption : _ ∧ Below w7.heap.size w7 _)) (hbw8.mono (Below.size (And.right (by assumption : _ ∧ Below w7.heap.size w7 _)))); have gsw8 := gw8.size; have hcf := bcell hbw8; have hcw8 := hcf.1; have hfw8 := hcf.2; have hsw8 := hbw8.size; (try simp only [World.size_alloc, World.heap_drewN, heap_drew] at hsw8); have H_hbw8 := Lib.hid hbw8; clear hbw8 hcf; (try have hzw8 : w7.heap.size < w8.heap.size := by omega))
                refine hK.out _ _ ?_ (fun hHeld => ?_)
                · (try dsimp only); (first | (refine ext_mk ?_; exact belt))
                clear hK K
                (try simp only [apz])
                refine wpAnyH_ready (rs := [5]) (by kernel_rfl) (by simp) ?_
                refine AllReadyH.cons rfl (fun K hK => ?_) AllReadyH.nil
                refine step_app_gen (At := MsAt) _ (by rfl) (.tmp 75) (.tmp 77) 28 (by rfl) i0 _ 56 Tryd.underlying28 H_hi0.out H_hz0.out H_hz1.out H_hz2.out rfl (by decide) Msg.cells_len Msg.cells_one (fun _ _ h => h.1) n H_hln.out (by rfl) (by exact OwnRows.base_le (base' := w7.heap.size) o8 (by simp)) (some ⟨w7.heap.size, 0, none⟩) 1 1 [NM] rfl (by rfl) (by exact RowsAt.below (rows_new1 (At := MsAt) w7 NM _ _ _ rfl rfl ⟨H_eN.out.symm, H_nmF.out, H_nmc.out, H_nmi.out.below ((Below.refl _ _).alloc (Nat.le_refl _) _)⟩) (fun _ _ h => h.below (((Below.refl _ _).drew).trans H_hbw8.out)) (((Below.refl _ _).drew).trans H_hbw8.out)) (by unfold maxLen; omega) (by omega) omg ?_
                intro X9 c9 w9 o9 g9 _
                have b9 : Below w7.heap.size w7 w9 := OwnRows.grow (w0 := w7) (OwnRows.base_le (base' := w7.heap.size) o8 (by simp)) (And.right (by assumption)) g9
                refine hK.out _ _ ?_ (fun hHeld => ?_)
                · (try dsimp only); (first | (refine ext_mk ?_; exact belt))
                clear hK K
                (try simp only [apz])
                refine wpAnyH_ready (rs := [6]) (by kernel_rfl) (by simp) ?_
                refine AllReadyH.cons rfl (fun K hK => ?_) AllReadyH.nil
                go_simp
                refine hK.out _ _ ?_ (fun hHeld => ?_)
                · (try dsimp only); (first | (refine ext_mk ?_; exact belt))
                clear hK K
                (try simp only [apz])
                refine wpAnyH_done (by kernel_rfl) ?_ _
                have ms9 : Msgs w9 X9 (ms ++ [NM]) := OwnM.msgs o9 (fun m hm => by
                  rcases List.mem_append.1 hm with hm | hm
                  · exact (H_l7.out.below b9).all m hm
                  · rw [List.mem_singleton] at hm; rw [hm]; exact ⟨H_nmF.out, H_nmc.out, H_nmi.out.below b9⟩)
                have ⟨H_o9, H_ms9, H_b9⟩ := hid3 o9 ms9 b9; clear o9 ms9 b9
                go_wp2_with fail
                go_meet
                (case rel => exact ⟨X9, c9, rfl, H_o9.out, H_ms9.out, H_b9.out⟩)
            case rest =>
              obtain ⟨X8, c8, rfl, o8, x8, d8⟩ := hcut
              obtain ⟨w8, hw8⟩ : ∃ W, wc = W := ⟨_, rfl⟩
              rw [hw8] at o8 x8 d8 ⊢
              clear v0 v1 v2 v3 v4 v5
              clear u0 u1 u2 u3 u4
              have bb8 := H_bb7.out.trans (d8.mono H_bb7.out.size)
              have r8 := H_r7.out.below d8
              have t8 := H_t7.out.below d8
              have hX8 : ∀ b' off, ms ++ [NM] ≠ [] → X8 = some ⟨b', off, none⟩ → b' ≠ w.heap.size + 1 := fun b' off _ e => by have := OwnRows.lt o8 b' (by rw [e]; rfl); omega
              have hlen : (ms ++ [NM]).length = n + 1 := by rw [List.length_append, H_hln.out]; rfl
              have q6 := fun W h1 h2 => jnewHead_any X8 c8 (n + 1) (ms ++ [NM]) party hlen (by omega) H_hv2.out W h1 h2
              rw [newH_cells _ _ (by simp), hlen] at q6
              have ci := chI_in (ms ++ [NM])
              have q7 := fun W => jsays_any ⟨party, (n : Int) + 1, chI (ms ++ [NM]), 0, 0⟩ ⟨hp, ⟨by show _ ≤ (n : Int) + 1; omega, by show (n : Int) + 1 ≤ _; omega⟩, ci, by show (-9223372036854775808 : Int) ≤ 0 ∧ (0 : Int) ≤ 9223372036854775807; omega, by show (-9223372036854775808 : Int) ≤ 0 ∧ (0 : Int) ≤ 9223372036854775807; omega⟩ W
              have q8 := fun W Y h1 h2 => sign_all sec once Y 4 4 (sayI ⟨party, (n : Int) + 1, chI (ms ++ [NM]), 0, 0⟩) rfl W h1 (by omega) (say_fit ⟨hp, ⟨by show _ ≤ (n : Int) + 1; omega, by show (n : Int) + 1 ≤ _; omega⟩, ci, by show (-9223372036854775808 : Int) ≤ 0 ∧ (0 : Int) ≤ 9223372036854775807; omega, by show (-9223372036854775808 : Int) ≤ 0 ∧ (0 : Int) ≤ 9223372036854775807; omega⟩) h2
              rw [H_hR0.out] at q8
              have e7 : (Hd.mk party ((n : Int) + 1) (chI (ms ++ [NM])) 0 0).cells.toArray = #[.int .i64 party, .int .i64 ((n : Int) + 1), .int .u64 (chI (ms ++ [NM])), .int .i64 0, .int .i64 0] := rfl
              rw [e7] at q7
              unfold New4 at q7
              have cn : ((n + 1 : Nat) : Int) = (n : Int) + 1 := by omega
              rw [cn] at q6
              clear e7
              generalize hCH : chI (ms ++ [NM]) = CH at *
              generalize hSY : sayI ⟨party, (n : Int) + 1, CH, 0, 0⟩ = SY at *
              generalize hEE : sgnE sec once SY = EE at *
              generalize hSS : sgnS sec once SY = SS at *
              have ⟨H_hw8, H_o8, H_x8, H_d8, H_bb8, H_r8, H_t8, H_q6⟩ := hid8 hw8 o8 x8 d8 bb8 r8 t8 q6; clear hw8 o8 x8 d8 bb8 r8 t8 q6; have ⟨H_q7, H_q8, H_hCH, H_hSY, H_hEE, H_hSS, H_hX8, H_hlen⟩ := hid8 q7 q8 hCH hSY hEE hSS hX8 hlen; clear q7 q8 hCH hSY hEE hSS hX8 hlen; have H_ci := Lib.hid ci; clear ci
              go_wp2_with fail
              (with_reducible refine (H_q6.out _ ?_ ?_).mono ?_)
              · exact H_x8.out.below (show Below w8.heap.size w8 _ from belt)
              · exact H_t8.out.below (show Below w8.heap.size w8 _ from belt)
              rintro e w9 ⟨rfl, b9⟩
              have c9 : Below w8.heap.size w8 w9 := Below.trans belt (b9.mono omh)
              have s9 := c9.size
              have bb9 := H_bb8.out.trans (c9.mono H_bb8.out.size)
              have r9 := H_r8.out.below c9
              have t9 := H_t8.out.below c9
              have x9 := H_x8.out.below c9
              have ⟨H_b9, H_c9, H_bb9, H_r9, H_t9, H_x9⟩ := hid6 b9 c9 bb9 r9 t9 x9; clear b9 c9 bb9 r9 t9 x9
              go_upto_region 13 with (fail)
              obtain ⟨w10, hw10⟩ : ∃ W, w9.alloc (.cells #[.int .i64 party, .int .i64 ((n : Int) + 1), .int .u64 CH, .int .i64 0, .int .i64 0] 33) = W := ⟨_, rfl⟩
              rw [hw10]
              have d10 : Below w9.heap.size w9 w10 := by rw [← hw10]; exact (Below.refl _ _).alloc (Nat.le_refl _) _
              have y10 : Blk w10 w9.heap.size #[.int .i64 party, .int .i64 ((n : Int) + 1), .int .u64 CH, .int .i64 0, .int .i64 0] := by rw [← hw10]; exact blk_new rfl
              have bb10 := H_bb9.out.trans (d10.mono H_bb9.out.size)
              have r10 := H_r9.out.below d10
              have t10 := H_t9.out.below d10
              have x10 := H_x9.out.below d10
              have s10 : w9.heap.size < w10.heap.size := by rw [← hw10]; simp
              have ⟨H_hw10, H_d10, H_y10, H_bb10, H_r10, H_t10, H_x10⟩ := hid7 hw10 d10 y10 bb10 r10 t10 x10; clear hw10 d10 y10 bb10 r10 t10 x10
              have u0 := (H_y10.out 0 _ rfl).at
              have u1 := (H_y10.out 1 _ rfl).at
              have u2 := (H_y10.out 2 _ rfl).at
              have u3 := (H_y10.out 3 _ rfl).at
              have u4 := (H_y10.out 4 _ rfl).at
              go_wp2_with fail
              (with_reducible refine (H_q7.out _).mono ?_)
              rintro e w11 ⟨b11, rfl, h11, b11⟩
              have c11 : Below w10.heap.size w10 w11 := Below.trans belt (b11.mono omh)
              have s11 := c11.size
              have bb11 := H_bb10.out.trans (c11.mono H_bb10.out.size)
              have y11 := H_y10.out.below c11
              have r11 := H_r10.out.below c11
              have t11 := H_t10.out.below c11
              have x11 := H_x10.out.below c11
              have ⟨H_b11, H_c11, H_bb11, H_y11, H_r11, H_t11, H_x11⟩ := hid7 b11 c11 bb11 y11 r11 t11 x11; clear b11 c11 bb11 y11 r11 t11 x11
              clear u0 u1 u2 u3 u4
              go_wp2_with fail
              (with_reducible refine (H_q8.out _ _ ?_ ?_).mono ?_)
              · exact h11
              · exact H_t11.out.below (show Below w11.heap.size w11 _ from belt)
              rintro e w12 ⟨rfl, b12⟩
              have c12 : Below w11.heap.size w11 w12 := Below.trans belt (b12.mono omh)
              have s12 := c12.size
              have bb12 := H_bb11.out.trans (c12.mono H_bb11.out.size)
              have y12 := H_y11.out.below c12
              have r12 := H_r11.out.below c12
              have x12 := H_x11.out.below c12
              have ⟨H_b12, H_c12, H_bb12, H_y12, H_r12, H_x12⟩ := hid6 b12 c12 bb12 y12 r12 x12; clear b12 c12 bb12 y12 r12 x12
              have u0 := (H_y12.out 0 _ rfl).at
              have u1 := (H_y12.out 1 _ rfl).at
              have u2 := (H_y12.out 2 _ rfl).at
              have u3 := (H_y12.out 3 _ rfl).at
              have u4 := (H_y12.out 4 _ rfl).at
              have f0 := (H_y12.out 0 _ rfl).free
              have f1 := (H_y12.out 1 _ rfl).free
              have f2 := (H_y12.out 2 _ rfl).free
              have f3 := (H_y12.out 3 _ rfl).free
              have f4 := (H_y12.out 4 _ rfl).free
              go_upto_region 14 with (fail)
              obtain ⟨w13, hw13⟩ : ∃ W, (w12.setCell ⟨w9.heap.size, 3, none⟩ (.int .i64 EE)).setCell ⟨w9.heap.size, 4, none⟩ (.int .i64 SS) = W := ⟨_, rfl⟩
              rw [hw13]
              have lu9 := H_bb9.out.size
              have bb13 : Below w.heap.size w w13 := by rw [← hw13]; exact (H_bb12.out.setCell (by simp; omega) _).setCell (by simp; omega) _
              have y13 : Blk w13 w9.heap.size #[.int .i64 party, .int .i64 ((n : Int) + 1), .int .u64 CH, .int .i64 EE, .int .i64 SS] := by rw [← hw13]; exact (H_y12.out.set 3 _ (by simp)).set 4 _ (by simp)
              have lr9 := (H_r9.out 0 _ rfl).lt
              have r13 : Blk w13 (w.heap.size + 1) #[.slice none 0 0, .int .i64 0, .int .i64 0, .int .u64 0, .int .i64 0, .int .i64 0] := by rw [← hw13]; exact (H_r12.out.far (by omega) _).far (by omega) _
              have x13 : Msgs w13 X8 (ms ++ [NM]) := by
                rw [← hw13]
                refine putL_msgs (fun b' off h1 h2 => ?_) (fun m hm b' off h1 h2 => ?_) [.int .i64 EE, .int .i64 SS] w12 3 H_x12.out
                · have := OwnRows.lt H_o8.out b' (by rw [h2]; rfl); have := H_c9.out.size; omega
                · obtain ⟨g, e, hg⟩ := (H_x8.out.all m hm).2.2.lt (List.length_pos_iff.2 h1)
                  rw [h2] at e; have e : b' = g := Option.some.inj e; have := H_c9.out.size; omega
              clear u0 u1 u2 u3 u4
              clear f0 f1 f2 f3 f4
              have ⟨H_hw13, H_bb13, H_y13, H_r13, H_x13⟩ := hid5 hw13 bb13 y13 r13 x13; clear hw13 bb13 y13 r13 x13
              have u0 := (H_y13.out 0 _ rfl).at
              have u1 := (H_y13.out 1 _ rfl).at
              have u2 := (H_y13.out 2 _ rfl).at
              have u3 := (H_y13.out 3 _ rfl).at
              have u4 := (H_y13.out 4 _ rfl).at
              have z0 := (H_r13.out 0 _ rfl).at
              have z1 := (H_r13.out 1 _ rfl).at
              have z2 := (H_r13.out 2 _ rfl).at
              have z3 := (H_r13.out 3 _ rfl).at
              have z4 := (H_r13.out 4 _ rfl).at
              have z5 := (H_r13.out 5 _ rfl).at
              have f0 := (H_r13.out 0 _ rfl).free
              have f1 := (H_r13.out 1 _ rfl).free
              have f2 := (H_r13.out 2 _ rfl).free
              have f3 := (H_r13.out 3 _ rfl).free
              have f4 := (H_r13.out 4 _ rfl).free
              have f5 := (H_r13.out 5 _ rfl).free
              have lr := (H_r13.out 0 _ rfl).lt
              have gw9 : Below w.heap.size w (putL w13 (w.heap.size + 1) 0 [.slice X8 (n + 1) c8, .int .i64 party, .int .i64 ((n : Int) + 1), .int .u64 CH, .int .i64 EE, .int .i64 SS]) := putL_below (by omega) _ _ _ H_bb13.out
              have gx9 : Msgs (putL w13 (w.heap.size + 1) 0 [.slice X8 (n + 1) c8, .int .i64 party, .int .i64 ((n : Int) + 1), .int .u64 CH, .int .i64 EE, .int .i64 SS]) X8 (ms ++ [NM]) := by
                refine putL_msgs H_hX8.out (fun m hm b' off h1 h2 => ?_) _ _ _ H_x13.out
                rcases List.mem_append.1 hm with hm | hm
                · obtain ⟨g, e, hg⟩ := (H_hl.out.all m hm).2.2.lt (List.length_pos_iff.2 h1)
                  rw [h2] at e; have e : b' = g := Option.some.inj e; omega
                · rw [List.mem_singleton] at hm; subst hm
                  rw [H_hNM.out] at h1 h2
                  have := H_hA1.out b' off h1 h2; omega
              simp only [putL, Nat.reduceAdd] at gw9 gx9
              have fin : apH (ms ++ [NM]) party sec once = ⟨party, (n : Int) + 1, CH, EE, SS⟩ := by
                rw [← H_hEE.out, ← H_hSS.out, ← H_hSY.out, ← H_hCH.out, apH, H_hlen.out, cn]
              have ⟨H_gw9, H_gx9, H_fin⟩ := hid3 gw9 gx9 fin; clear gw9 gx9 fin
              go_wp2_with fail
              refine bodyPost_ret (v := .tuple #[.agg #[.slice X8 (n + 1) c8, .int .i64 party, .int .i64 ((n : Int) + 1), .int .u64 CH, .int .i64 EE, .int .i64 SS], .int .i64 0]) (by simp [results, Tryd.results20, go_sem, *]) rfl ?_
              refine Or.inr ⟨H_eE.out, X8, c8, A1, c1, ?_, ?_, H_gw9.out, fun b off e => ?_, fun b off h1 h2 => ?_, ?_, ?_⟩
              · rw [H_hln.out, ← H_hNM.out, H_fin.out, H_hCH.out]
              · rw [H_hln.out, ← H_hNM.out]; exact H_gx9.out
              · have := OwnRows.lt H_o8.out b (by rw [e]; rfl); have := H_bb7.out.size; omega
              · have := H_hA1.out b off h1 h2; have := H_bb0.out.size; omega
              · have := (OwnRows.cap H_o8.out).1; rw [H_hlen.out] at this; rw [H_hln.out]; exact this
              · exact (OwnRows.cap H_o8.out).2
end Go.Proofs.YtmbmejclnagffaaDoor
