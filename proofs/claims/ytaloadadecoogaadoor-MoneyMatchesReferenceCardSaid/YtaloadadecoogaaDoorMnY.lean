/- The statements about money: head, rate. -/
import Derived.Test.YtaloadadecoogaaDoorMnX
namespace Go.Proofs.YtaloadadecoogaaDoor
set_option linter.unusedSimpArgs false
set_option linter.unusedVariables false
set_option maxRecDepth 100000
open Go.RowKit Go.Maps

theorem OwnX.below {w w' : World} {base : Nat} {A : Option Addr} {c : Nat} {l : List Exc} (h : OwnX w base A c l) (hb : Below w.heap.size w w') : OwnX w' base A c l := OwnRows.below h hb
/-- append of exchanges at an operation, guarded or not -/
theorem wp_app_x {ops : Array Oper} {rest : List Oper} {o : Oper} {a : Act} {Q : Exit → Act → World → Prop} (w : World) (hw : Region.wanted o (yielded ops a.tmps) = true) (s x : Operand)
    (ho : o.op = .call { callee := .builtin .append, args := #[s, x], argTypes := #[22, 22] }) (hty : o.type = 22) (base : Nat) (A B : Option Addr) (c cc n m : Nat) (p q : List Exc) (hp : p.length = n) (hq : q.length = m)
    (hs : a.eval s = .slice A n c) (hx : a.eval x = .slice B m cc) (hown : OwnX w base A c p) (hr : Excs w B q) (k : Nat) (hk : n + m = k) (h63 : k ≤ 1000) (hbase : base ≤ w.heap.size)
    (h : ∀ A' c' w', OwnX w' base A' c' (p ++ q) → w.grownBy w' (blockOf A) → wpList Tryd.prog ops Q rest (a.put o.dst (.slice A' k c')) w') : wpList Tryd.prog ops Q (o :: rest) a w := by
  obtain ⟨A', c', w', hrun, h2, h3⟩ := run_app_x w base A B c cc n m p q hp hq hown hr (by omega) hbase
  rw [wpList, if_pos hw]
  refine .inl ?_
  unfold Oper.wp execOp
  simp only [ho, hty, resolve, invoke, builtin, Sem.run_bind, Sem.run_pure, Result.andThen_ok, List.map_toArray, List.map_cons, List.map_nil, hs, hx, hrun]
  rw [hk]
  exact h A' c' w' h2 h3
set_option maxHeartbeats 16000000 in
set_option maxRecDepth 100000 in
theorem head06_any (w0 : World) (ht : Tab w0) : Calls Tryd.prog 9 #[] w0 fun e w' => e = .returned (.bool true) ∧ Below w0.heap.size w0 w' := by
  have q1 := fun W A h => mconvert_any A 1 1 [x12] 250 1 2 rfl (by omega) (by omega) (by omega) (by omega) W h
  have q2 := fun W A h => mconvert_any A 1 1 [x12] 250 2 2 rfl (by omega) (by omega) (by omega) (by omega) W h
  have q3 := fun W A h => mconvert_any A 1 1 [x12] 250 2 1 rfl (by omega) (by omega) (by omega) (by omega) W h
  rw [cv1.1, cv1.2.1, cv1.2.2] at q1
  rw [cv2.1, cv2.2.1, cv2.2.2] at q2
  rw [cv3.1, cv3.2.1, cv3.2.2] at q3
  have q4 := fun W A h => mshare_any A 3 3 100 [1, 1, 1] rfl (by omega) (by omega) W h
  rw [sh1.1, sh1.2] at q4
  unfold OwnErr at q4
  have q5 := fun W h => mtext_any 1205 (by omega) W h
  rw [tx1.1, tx1.2] at q5
  have q6 := fun W h => mtext_any (-50) (by omega) W h
  rw [tx2.1, tx2.2] at q6
  have q7 := fun W h => mparse_any ⟨#[45, 48, 46, 53, 48]⟩ (by decide) W h
  rw [ps1.1, ps1.2] at q7
  have q8 := fun W h => mparse_any ⟨#[45, 48, 46, 48, 48]⟩ (by decide) W h
  rw [ps2.1, ps2.2] at q8
  have q9 := fun W h => mparse_any ⟨#[48, 49, 46, 48, 48]⟩ (by decide) W h
  rw [ps3.1, ps3.2] at q9
  have q10 := fun W A h => mshare_any A 2 2 100 [0, 0] rfl (by omega) (by omega) W h
  rw [sh2.1, sh2.2] at q10
  unfold OwnErr at q10
  have q11 := fun W A B c h1 h2 => rsameb_any A B c 3 3 3 [33, 33, 34] [33, 33, 34] rfl rfl W h1 h2 (by omega) (by omega)
  rw [sameB_self] at q11
  have q12 := fun W A h => mvalid_any A 1 1 [x12] rfl (by omega) W h
  rw [tab12] at q12
  have q13 := fun W A c h => mvalid_any A c 2 [x12, x12] rfl (by omega) W h
  rw [tab22] at q13
  have eqa := fun W => eq_money 2 2 2 2 (by omega) (by omega) (by omega) (by omega) (R := true) (by simp) W
  have eqb := fun W => eq_money 250 2 250 2 (by omega) (by omega) (by omega) (by omega) (R := true) (by simp) W
  obtain ⟨w1, hw1⟩ : ∃ W, w0.alloc (.cells #[.int .i64 1, .int .i64 2, .int .i64 1, .int .i64 100] 53) = W := ⟨_, rfl⟩
  have bb1 : Below w0.heap.size w0 w1 := by rw [← hw1]; exact (Below.refl _ _).alloc (Nat.le_refl _) _
  have l1 : OwnX w1 w0.heap.size (some ⟨w0.heap.size, 0, none⟩) 1 [x12] := by rw [← hw1]; exact ownX_lit [x12] (Nat.le_refl _) (by simp) rfl rfl
  have fits : ∀ c ∈ [x12], XFit c := fun c hc => by rw [List.mem_singleton] at hc; rw [hc]; exact x12_fit
  have e1 := l1.excs fits
  have t1 := ht.below bb1
  simp only [List.length_cons, List.length_nil, Nat.reduceAdd] at q4 q10
  have H_q1 := Lib.hid q1; clear q1; have H_q2 := Lib.hid q2; clear q2; have H_q3 := Lib.hid q3; clear q3; have H_q4 := Lib.hid q4; clear q4; have H_q5 := Lib.hid q5; clear q5; have H_q6 := Lib.hid q6; clear q6; have H_q7 := Lib.hid q7; clear q7; have H_q8 := Lib.hid q8; clear q8; have H_q9 := Lib.hid q9; clear q9; have H_q10 := Lib.hid q10; clear q10; have H_q11 := Lib.hid q11; clear q11; have H_q12 := Lib.hid q12; clear q12; have H_q13 := Lib.hid q13; clear q13; have H_hw1 := Lib.hid hw1; clear hw1; have H_bb1 := Lib.hid bb1; clear bb1; have H_l1 := Lib.hid l1; clear l1; have H_e1 := Lib.hid e1; clear e1; have H_t1 := Lib.hid t1; clear t1; have H_ht := Lib.hid ht; clear ht; have H_fits := Lib.hid fits; clear fits
  go_enter Tryd.func9, Tryd.ntmps9
  go_upto_region 2 with (fail)
  rw [H_hw1.out]
  go_wp2_with fail
  (with_reducible refine (H_q1.out _ _ ?_).mono ?_)
  · exact H_e1.out.below (show Below w1.heap.size w1 _ by (repeat (first | with_reducible exact Below.refl _ _ | with_reducible exact Nat.le_refl _ | with_reducible assumption | with_reducible refine Below.drew ?_ | with_reducible refine below_drewN ?_ _ | with_reducible refine Below.alloc ?_ ?_ _ | with_reducible refine Below.setCell ?_ ?_ _ | with_reducible exact And.right (by assumption) | with_reducible refine Below.trans ?_ (Below.mono (by assumption) ?_) | with_reducible exact Below.size (And.right (by assumption)) | (focus omega) | (focus (simp; done)) | (focus (simp; omega)) | (focus (simp at *; omega)))))
  rintro e w2 ⟨rfl, b2⟩
  have c2 : Below w1.heap.size w1 w2 := Below.trans (by (repeat (first | with_reducible exact Below.refl _ _ | with_reducible exact Nat.le_refl _ | with_reducible assumption | with_reducible refine Below.drew ?_ | with_reducible refine below_drewN ?_ _ | with_reducible refine Below.alloc ?_ ?_ _ | with_reducible refine Below.setCell ?_ ?_ _ | with_reducible exact And.right (by assumption) | with_reducible refine Below.trans ?_ (Below.mono (by assumption) ?_) | with_reducible exact Below.size (And.right (by assumption)) | (focus omega) | (focus (simp; done)) | (focus (simp; omega)) | (focus (simp at *; omega))))) (b2.mono (by first | exact Nat.le_refl _ | omega | (simp; done) | (simp; omega)))
  have s2 := c2.size
  have bb2 := H_bb1.out.trans (c2.mono H_bb1.out.size)
  have l2 := H_l1.out.below c2
  have e2 := H_e1.out.below c2
  have t2 := H_t1.out.below c2
  have H_b2 := Lib.hid b2; clear b2; have H_c2 := Lib.hid c2; clear c2; have H_bb2 := Lib.hid bb2; clear bb2; have H_l2 := Lib.hid l2; clear l2; have H_e2 := Lib.hid e2; clear e2; have H_t2 := Lib.hid t2; clear t2
  go_wp2_with fail
  (with_reducible refine (H_q2.out _ _ ?_).mono ?_)
  · exact H_e2.out.below (show Below w2.heap.size w2 _ by (repeat (first | with_reducible exact Below.refl _ _ | with_reducible exact Nat.le_refl _ | with_reducible assumption | with_reducible refine Below.drew ?_ | with_reducible refine below_drewN ?_ _ | with_reducible refine Below.alloc ?_ ?_ _ | with_reducible refine Below.setCell ?_ ?_ _ | with_reducible exact And.right (by assumption) | with_reducible refine Below.trans ?_ (Below.mono (by assumption) ?_) | with_reducible exact Below.size (And.right (by assumption)) | (focus omega) | (focus (simp; done)) | (focus (simp; omega)) | (focus (simp at *; omega)))))
  rintro e w3 ⟨rfl, b3⟩
  have c3 : Below w2.heap.size w2 w3 := Below.trans (by (repeat (first | with_reducible exact Below.refl _ _ | with_reducible exact Nat.le_refl _ | with_reducible assumption | with_reducible refine Below.drew ?_ | with_reducible refine below_drewN ?_ _ | with_reducible refine Below.alloc ?_ ?_ _ | with_reducible refine Below.setCell ?_ ?_ _ | with_reducible exact And.right (by assumption) | with_reducible refine Below.trans ?_ (Below.mono (by assumption) ?_) | with_reducible exact Below.size (And.right (by assumption)) | (focus omega) | (focus (simp; done)) | (focus (simp; omega)) | (focus (simp at *; omega))))) (b3.mono (by first | exact Nat.le_refl _ | omega | (simp; done) | (simp; omega)))
  have s3 := c3.size
  have bb3 := H_bb2.out.trans (c3.mono H_bb2.out.size)
  have l3 := H_l2.out.below c3
  have e3 := H_e2.out.below c3
  have t3 := H_t2.out.below c3
  have H_b3 := Lib.hid b3; clear b3; have H_c3 := Lib.hid c3; clear c3; have H_bb3 := Lib.hid bb3; clear bb3; have H_l3 := Lib.hid l3; clear l3; have H_e3 := Lib.hid e3; clear e3; have H_t3 := Lib.hid t3; clear t3
  have u3 : Blk w3 w2.heap.size #[.int .i64 2, .int .i64 2] := (blk_new rfl).below H_b3.out
  have H_u3 := Lib.hid u3; clear u3
  go_wp2_with fail
  (with_reducible refine (H_q3.out _ _ ?_).mono ?_)
  · exact H_e3.out.below (show Below w3.heap.size w3 _ by (repeat (first | with_reducible exact Below.refl _ _ | with_reducible exact Nat.le_refl _ | with_reducible assumption | with_reducible refine Below.drew ?_ | with_reducible refine below_drewN ?_ _ | with_reducible refine Below.alloc ?_ ?_ _ | with_reducible refine Below.setCell ?_ ?_ _ | with_reducible exact And.right (by assumption) | with_reducible refine Below.trans ?_ (Below.mono (by assumption) ?_) | with_reducible exact Below.size (And.right (by assumption)) | (focus omega) | (focus (simp; done)) | (focus (simp; omega)) | (focus (simp at *; omega)))))
  rintro e w4 ⟨rfl, b4⟩
  have c4 : Below w3.heap.size w3 w4 := Below.trans (by (repeat (first | with_reducible exact Below.refl _ _ | with_reducible exact Nat.le_refl _ | with_reducible assumption | with_reducible refine Below.drew ?_ | with_reducible refine below_drewN ?_ _ | with_reducible refine Below.alloc ?_ ?_ _ | with_reducible refine Below.setCell ?_ ?_ _ | with_reducible exact And.right (by assumption) | with_reducible refine Below.trans ?_ (Below.mono (by assumption) ?_) | with_reducible exact Below.size (And.right (by assumption)) | (focus omega) | (focus (simp; done)) | (focus (simp; omega)) | (focus (simp at *; omega))))) (b4.mono (by first | exact Nat.le_refl _ | omega | (simp; done) | (simp; omega)))
  have s4 := c4.size
  have bb4 := H_bb3.out.trans (c4.mono H_bb3.out.size)
  have l4 := H_l3.out.below c4
  have e4 := H_e3.out.below c4
  have t4 := H_t3.out.below c4
  have u4 := H_u3.out.below c4
  have H_b4 := Lib.hid b4; clear b4; have H_c4 := Lib.hid c4; clear c4; have H_bb4 := Lib.hid bb4; clear bb4; have H_l4 := Lib.hid l4; clear l4; have H_e4 := Lib.hid e4; clear e4; have H_t4 := Lib.hid t4; clear t4; have H_u4 := Lib.hid u4; clear u4
  have v4 : Blk w4 w3.heap.size #[.int .i64 250, .int .i64 2] := (blk_new rfl).below H_b4.out
  have H_v4 := Lib.hid v4; clear v4
  go_wp2_with fail
  (with_reducible refine (H_q4.out _ _ ?_).mono ?_)
  · exact ints_lit (w := _) [1, 1, 1] _ (by simp)
  rintro e w5 ⟨A5, p5, rfl, o5, b5⟩
  have c5 : Below w4.heap.size w4 w5 := Below.trans (by (repeat (first | with_reducible exact Below.refl _ _ | with_reducible exact Nat.le_refl _ | with_reducible assumption | with_reducible refine Below.drew ?_ | with_reducible refine below_drewN ?_ _ | with_reducible refine Below.alloc ?_ ?_ _ | with_reducible refine Below.setCell ?_ ?_ _ | with_reducible exact And.right (by assumption) | with_reducible refine Below.trans ?_ (Below.mono (by assumption) ?_) | with_reducible exact Below.size (And.right (by assumption)) | (focus omega) | (focus (simp; done)) | (focus (simp; omega)) | (focus (simp at *; omega))))) (b5.mono (by first | exact Nat.le_refl _ | omega | (simp; done) | (simp; omega)))
  have s5 := c5.size
  have bb5 := H_bb4.out.trans (c5.mono H_bb4.out.size)
  have l5 := H_l4.out.below c5
  have e5 := H_e4.out.below c5
  have t5 := H_t4.out.below c5
  have u5 := H_u4.out.below c5
  have v5 := H_v4.out.below c5
  have H_b5 := Lib.hid b5; clear b5; have H_c5 := Lib.hid c5; clear c5; have H_bb5 := Lib.hid bb5; clear bb5; have H_l5 := Lib.hid l5; clear l5; have H_e5 := Lib.hid e5; clear e5; have H_t5 := Lib.hid t5; clear t5; have H_u5 := Lib.hid u5; clear u5; have H_v5 := Lib.hid v5; clear v5
  have i5 := o5.ints
  have H_o5 := Lib.hid o5; clear o5; have H_i5 := Lib.hid i5; clear i5
  go_wp2_with fail
  (with_reducible refine (H_q5.out _ ?_).mono ?_)
  · exact H_t5.out.below (show Below w5.heap.size w5 _ by (repeat (first | with_reducible exact Below.refl _ _ | with_reducible exact Nat.le_refl _ | with_reducible assumption | with_reducible refine Below.drew ?_ | with_reducible refine below_drewN ?_ _ | with_reducible refine Below.alloc ?_ ?_ _ | with_reducible refine Below.setCell ?_ ?_ _ | with_reducible exact And.right (by assumption) | with_reducible refine Below.trans ?_ (Below.mono (by assumption) ?_) | with_reducible exact Below.size (And.right (by assumption)) | (focus omega) | (focus (simp; done)) | (focus (simp; omega)) | (focus (simp at *; omega)))))
  rintro e w6 ⟨rfl, b6⟩
  have c6 : Below w5.heap.size w5 w6 := Below.trans (by (repeat (first | with_reducible exact Below.refl _ _ | with_reducible exact Nat.le_refl _ | with_reducible assumption | with_reducible refine Below.drew ?_ | with_reducible refine below_drewN ?_ _ | with_reducible refine Below.alloc ?_ ?_ _ | with_reducible refine Below.setCell ?_ ?_ _ | with_reducible exact And.right (by assumption) | with_reducible refine Below.trans ?_ (Below.mono (by assumption) ?_) | with_reducible exact Below.size (And.right (by assumption)) | (focus omega) | (focus (simp; done)) | (focus (simp; omega)) | (focus (simp at *; omega))))) (b6.mono (by first | exact Nat.le_refl _ | omega | (simp; done) | (simp; omega)))
  have s6 := c6.size
  have bb6 := H_bb5.out.trans (c6.mono H_bb5.out.size)
  have l6 := H_l5.out.below c6
  have e6 := H_e5.out.below c6
  have t6 := H_t5.out.below c6
  have u6 := H_u5.out.below c6
  have v6 := H_v5.out.below c6
  have i6 := H_i5.out.below c6
  have H_b6 := Lib.hid b6; clear b6; have H_c6 := Lib.hid c6; clear c6; have H_bb6 := Lib.hid bb6; clear bb6; have H_l6 := Lib.hid l6; clear l6; have H_e6 := Lib.hid e6; clear e6; have H_t6 := Lib.hid t6; clear t6; have H_u6 := Lib.hid u6; clear u6; have H_v6 := Lib.hid v6; clear v6; have H_i6 := Lib.hid i6; clear i6
  go_wp2_with fail
  (with_reducible refine (H_q6.out _ ?_).mono ?_)
  · exact H_t6.out.below (show Below w6.heap.size w6 _ by (repeat (first | with_reducible exact Below.refl _ _ | with_reducible exact Nat.le_refl _ | with_reducible assumption | with_reducible refine Below.drew ?_ | with_reducible refine below_drewN ?_ _ | with_reducible refine Below.alloc ?_ ?_ _ | with_reducible refine Below.setCell ?_ ?_ _ | with_reducible exact And.right (by assumption) | with_reducible refine Below.trans ?_ (Below.mono (by assumption) ?_) | with_reducible exact Below.size (And.right (by assumption)) | (focus omega) | (focus (simp; done)) | (focus (simp; omega)) | (focus (simp at *; omega)))))
  rintro e w7 ⟨rfl, b7⟩
  have c7 : Below w6.heap.size w6 w7 := Below.trans (by (repeat (first | with_reducible exact Below.refl _ _ | with_reducible exact Nat.le_refl _ | with_reducible assumption | with_reducible refine Below.drew ?_ | with_reducible refine below_drewN ?_ _ | with_reducible refine Below.alloc ?_ ?_ _ | with_reducible refine Below.setCell ?_ ?_ _ | with_reducible exact And.right (by assumption) | with_reducible refine Below.trans ?_ (Below.mono (by assumption) ?_) | with_reducible exact Below.size (And.right (by assumption)) | (focus omega) | (focus (simp; done)) | (focus (simp; omega)) | (focus (simp at *; omega))))) (b7.mono (by first | exact Nat.le_refl _ | omega | (simp; done) | (simp; omega)))
  have s7 := c7.size
  have bb7 := H_bb6.out.trans (c7.mono H_bb6.out.size)
  have l7 := H_l6.out.below c7
  have e7 := H_e6.out.below c7
  have t7 := H_t6.out.below c7
  have u7 := H_u6.out.below c7
  have v7 := H_v6.out.below c7
  have i7 := H_i6.out.below c7
  have H_b7 := Lib.hid b7; clear b7; have H_c7 := Lib.hid c7; clear c7; have H_bb7 := Lib.hid bb7; clear bb7; have H_l7 := Lib.hid l7; clear l7; have H_e7 := Lib.hid e7; clear e7; have H_t7 := Lib.hid t7; clear t7; have H_u7 := Lib.hid u7; clear u7; have H_v7 := Lib.hid v7; clear v7; have H_i7 := Lib.hid i7; clear i7
  go_wp2_with fail
  (with_reducible refine (H_q7.out _ ?_).mono ?_)
  · exact H_t7.out.below (show Below w7.heap.size w7 _ by (repeat (first | with_reducible exact Below.refl _ _ | with_reducible exact Nat.le_refl _ | with_reducible assumption | with_reducible refine Below.drew ?_ | with_reducible refine below_drewN ?_ _ | with_reducible refine Below.alloc ?_ ?_ _ | with_reducible refine Below.setCell ?_ ?_ _ | with_reducible exact And.right (by assumption) | with_reducible refine Below.trans ?_ (Below.mono (by assumption) ?_) | with_reducible exact Below.size (And.right (by assumption)) | (focus omega) | (focus (simp; done)) | (focus (simp; omega)) | (focus (simp at *; omega)))))
  rintro e w8 ⟨rfl, b8⟩
  have c8 : Below w7.heap.size w7 w8 := Below.trans (by (repeat (first | with_reducible exact Below.refl _ _ | with_reducible exact Nat.le_refl _ | with_reducible assumption | with_reducible refine Below.drew ?_ | with_reducible refine below_drewN ?_ _ | with_reducible refine Below.alloc ?_ ?_ _ | with_reducible refine Below.setCell ?_ ?_ _ | with_reducible exact And.right (by assumption) | with_reducible refine Below.trans ?_ (Below.mono (by assumption) ?_) | with_reducible exact Below.size (And.right (by assumption)) | (focus omega) | (focus (simp; done)) | (focus (simp; omega)) | (focus (simp at *; omega))))) (b8.mono (by first | exact Nat.le_refl _ | omega | (simp; done) | (simp; omega)))
  have s8 := c8.size
  have bb8 := H_bb7.out.trans (c8.mono H_bb7.out.size)
  have l8 := H_l7.out.below c8
  have e8 := H_e7.out.below c8
  have t8 := H_t7.out.below c8
  have u8 := H_u7.out.below c8
  have v8 := H_v7.out.below c8
  have i8 := H_i7.out.below c8
  have H_b8 := Lib.hid b8; clear b8; have H_c8 := Lib.hid c8; clear c8; have H_bb8 := Lib.hid bb8; clear bb8; have H_l8 := Lib.hid l8; clear l8; have H_e8 := Lib.hid e8; clear e8; have H_t8 := Lib.hid t8; clear t8; have H_u8 := Lib.hid u8; clear u8; have H_v8 := Lib.hid v8; clear v8; have H_i8 := Lib.hid i8; clear i8
  go_wp2_with fail
  (with_reducible refine (H_q8.out _ ?_).mono ?_)
  · exact H_t8.out.below (show Below w8.heap.size w8 _ by (repeat (first | with_reducible exact Below.refl _ _ | with_reducible exact Nat.le_refl _ | with_reducible assumption | with_reducible refine Below.drew ?_ | with_reducible refine below_drewN ?_ _ | with_reducible refine Below.alloc ?_ ?_ _ | with_reducible refine Below.setCell ?_ ?_ _ | with_reducible exact And.right (by assumption) | with_reducible refine Below.trans ?_ (Below.mono (by assumption) ?_) | with_reducible exact Below.size (And.right (by assumption)) | (focus omega) | (focus (simp; done)) | (focus (simp; omega)) | (focus (simp at *; omega)))))
  rintro e w9 ⟨rfl, b9⟩
  have c9 : Below w8.heap.size w8 w9 := Below.trans (by (repeat (first | with_reducible exact Below.refl _ _ | with_reducible exact Nat.le_refl _ | with_reducible assumption | with_reducible refine Below.drew ?_ | with_reducible refine below_drewN ?_ _ | with_reducible refine Below.alloc ?_ ?_ _ | with_reducible refine Below.setCell ?_ ?_ _ | with_reducible exact And.right (by assumption) | with_reducible refine Below.trans ?_ (Below.mono (by assumption) ?_) | with_reducible exact Below.size (And.right (by assumption)) | (focus omega) | (focus (simp; done)) | (focus (simp; omega)) | (focus (simp at *; omega))))) (b9.mono (by first | exact Nat.le_refl _ | omega | (simp; done) | (simp; omega)))
  have s9 := c9.size
  have bb9 := H_bb8.out.trans (c9.mono H_bb8.out.size)
  have l9 := H_l8.out.below c9
  have e9 := H_e8.out.below c9
  have t9 := H_t8.out.below c9
  have u9 := H_u8.out.below c9
  have v9 := H_v8.out.below c9
  have i9 := H_i8.out.below c9
  have H_b9 := Lib.hid b9; clear b9; have H_c9 := Lib.hid c9; clear c9; have H_bb9 := Lib.hid bb9; clear bb9; have H_l9 := Lib.hid l9; clear l9; have H_e9 := Lib.hid e9; clear e9; have H_t9 := Lib.hid t9; clear t9; have H_u9 := Lib.hid u9; clear u9; have H_v9 := Lib.hid v9; clear v9; have H_i9 := Lib.hid i9; clear i9
  go_wp2_with fail
  (with_reducible refine (H_q9.out _ ?_).mono ?_)
  · exact H_t9.out.below (show Below w9.heap.size w9 _ by (repeat (first | with_reducible exact Below.refl _ _ | with_reducible exact Nat.le_refl _ | with_reducible assumption | with_reducible refine Below.drew ?_ | with_reducible refine below_drewN ?_ _ | with_reducible refine Below.alloc ?_ ?_ _ | with_reducible refine Below.setCell ?_ ?_ _ | with_reducible exact And.right (by assumption) | with_reducible refine Below.trans ?_ (Below.mono (by assumption) ?_) | with_reducible exact Below.size (And.right (by assumption)) | (focus omega) | (focus (simp; done)) | (focus (simp; omega)) | (focus (simp at *; omega)))))
  rintro e w10 ⟨rfl, b10⟩
  have c10 : Below w9.heap.size w9 w10 := Below.trans (by (repeat (first | with_reducible exact Below.refl _ _ | with_reducible exact Nat.le_refl _ | with_reducible assumption | with_reducible refine Below.drew ?_ | with_reducible refine below_drewN ?_ _ | with_reducible refine Below.alloc ?_ ?_ _ | with_reducible refine Below.setCell ?_ ?_ _ | with_reducible exact And.right (by assumption) | with_reducible refine Below.trans ?_ (Below.mono (by assumption) ?_) | with_reducible exact Below.size (And.right (by assumption)) | (focus omega) | (focus (simp; done)) | (focus (simp; omega)) | (focus (simp at *; omega))))) (b10.mono (by first | exact Nat.le_refl _ | omega | (simp; done) | (simp; omega)))
  have s10 := c10.size
  have bb10 := H_bb9.out.trans (c10.mono H_bb9.out.size)
  have l10 := H_l9.out.below c10
  have e10 := H_e9.out.below c10
  have t10 := H_t9.out.below c10
  have u10 := H_u9.out.below c10
  have v10 := H_v9.out.below c10
  have i10 := H_i9.out.below c10
  have H_b10 := Lib.hid b10; clear b10; have H_c10 := Lib.hid c10; clear c10; have H_bb10 := Lib.hid bb10; clear bb10; have H_l10 := Lib.hid l10; clear l10; have H_e10 := Lib.hid e10; clear e10; have H_t10 := Lib.hid t10; clear t10; have H_u10 := Lib.hid u10; clear u10; have H_v10 := Lib.hid v10; clear v10; have H_i10 := Lib.hid i10; clear i10
  go_wp2_with fail
  (with_reducible refine (H_q10.out _ _ ?_).mono ?_)
  · exact ints_lit (w := _) [0, 0] _ rfl
  rintro e w11 ⟨A11, p11, rfl, o11, b11⟩
  have c11 : Below w10.heap.size w10 w11 := Below.trans (by (repeat (first | with_reducible exact Below.refl _ _ | with_reducible exact Nat.le_refl _ | with_reducible assumption | with_reducible refine Below.drew ?_ | with_reducible refine below_drewN ?_ _ | with_reducible refine Below.alloc ?_ ?_ _ | with_reducible refine Below.setCell ?_ ?_ _ | with_reducible exact And.right (by assumption) | with_reducible refine Below.trans ?_ (Below.mono (by assumption) ?_) | with_reducible exact Below.size (And.right (by assumption)) | (focus omega) | (focus (simp; done)) | (focus (simp; omega)) | (focus (simp at *; omega))))) (b11.mono (by first | exact Nat.le_refl _ | omega | (simp; done) | (simp; omega)))
  have s11 := c11.size
  have bb11 := H_bb10.out.trans (c11.mono H_bb10.out.size)
  have l11 := H_l10.out.below c11
  have e11 := H_e10.out.below c11
  have t11 := H_t10.out.below c11
  have u11 := H_u10.out.below c11
  have v11 := H_v10.out.below c11
  have i11 := H_i10.out.below c11
  have H_b11 := Lib.hid b11; clear b11; have H_c11 := Lib.hid c11; clear c11; have H_bb11 := Lib.hid bb11; clear bb11; have H_l11 := Lib.hid l11; clear l11; have H_e11 := Lib.hid e11; clear e11; have H_t11 := Lib.hid t11; clear t11; have H_u11 := Lib.hid u11; clear u11; have H_v11 := Lib.hid v11; clear v11; have H_i11 := Lib.hid i11; clear i11
  have H_o11 := Lib.hid o11; clear o11
  go_upto_region 13 with (fail)
  have yu0 := (H_u11.out 0 _ rfl).at
  have yu1 := (H_u11.out 1 _ rfl).at
  have yv0 := (H_v11.out 0 _ rfl).at
  have yv1 := (H_v11.out 1 _ rfl).at
  have lu := (H_u11.out 0 _ rfl).lt
  have lv := (H_v11.out 0 _ rfl).lt
  go_wp2_with fail
  (with_reducible refine (H_q11.out _ _ _ _ ?_ ?_).mono ?_)
  · exact H_i11.out.below (show Below w11.heap.size w11 _ by (repeat (first | with_reducible exact Below.refl _ _ | with_reducible exact Nat.le_refl _ | with_reducible assumption | with_reducible refine Below.drew ?_ | with_reducible refine below_drewN ?_ _ | with_reducible refine Below.alloc ?_ ?_ _ | with_reducible refine Below.setCell ?_ ?_ _ | with_reducible exact And.right (by assumption) | with_reducible refine Below.trans ?_ (Below.mono (by assumption) ?_) | with_reducible exact Below.size (And.right (by assumption)) | (focus omega) | (focus (simp; done)) | (focus (simp; omega)) | (focus (simp at *; omega)))))
  · exact ints_lit (w := _) [33, 33, 34] _ rfl
  rintro e w12 ⟨rfl, b12⟩
  have c12 : Below w11.heap.size w11 w12 := Below.trans (by (repeat (first | with_reducible exact Below.refl _ _ | with_reducible exact Nat.le_refl _ | with_reducible assumption | with_reducible refine Below.drew ?_ | with_reducible refine below_drewN ?_ _ | with_reducible refine Below.alloc ?_ ?_ _ | with_reducible refine Below.setCell ?_ ?_ _ | with_reducible exact And.right (by assumption) | with_reducible refine Below.trans ?_ (Below.mono (by assumption) ?_) | with_reducible exact Below.size (And.right (by assumption)) | (focus omega) | (focus (simp; done)) | (focus (simp; omega)) | (focus (simp at *; omega))))) (b12.mono (by first | exact Nat.le_refl _ | omega | (simp; done) | (simp; omega)))
  have s12 := c12.size
  have bb12 := H_bb11.out.trans (c12.mono H_bb11.out.size)
  have l12 := H_l11.out.below c12
  have e12 := H_e11.out.below c12
  have H_b12 := Lib.hid b12; clear b12; have H_c12 := Lib.hid c12; clear c12; have H_bb12 := Lib.hid bb12; clear bb12; have H_l12 := Lib.hid l12; clear l12; have H_e12 := Lib.hid e12; clear e12
  clear eqa eqb
  clear yu0 yu1
  clear yv0 yv1
  go_wp2_with fail
  (with_reducible refine (H_q12.out _ _ ?_).mono ?_)
  · exact H_e12.out.below (show Below w12.heap.size w12 _ by (repeat (first | with_reducible exact Below.refl _ _ | with_reducible exact Nat.le_refl _ | with_reducible assumption | with_reducible refine Below.drew ?_ | with_reducible refine below_drewN ?_ _ | with_reducible refine Below.alloc ?_ ?_ _ | with_reducible refine Below.setCell ?_ ?_ _ | with_reducible exact And.right (by assumption) | with_reducible refine Below.trans ?_ (Below.mono (by assumption) ?_) | with_reducible exact Below.size (And.right (by assumption)) | (focus omega) | (focus (simp; done)) | (focus (simp; omega)) | (focus (simp at *; omega)))))
  rintro e w13 ⟨rfl, b13⟩
  have c13 : Below w12.heap.size w12 w13 := Below.trans (by (repeat (first | with_reducible exact Below.refl _ _ | with_reducible exact Nat.le_refl _ | with_reducible assumption | with_reducible refine Below.drew ?_ | with_reducible refine below_drewN ?_ _ | with_reducible refine Below.alloc ?_ ?_ _ | with_reducible refine Below.setCell ?_ ?_ _ | with_reducible exact And.right (by assumption) | with_reducible refine Below.trans ?_ (Below.mono (by assumption) ?_) | with_reducible exact Below.size (And.right (by assumption)) | (focus omega) | (focus (simp; done)) | (focus (simp; omega)) | (focus (simp at *; omega))))) (b13.mono (by first | exact Nat.le_refl _ | omega | (simp; done) | (simp; omega)))
  have s13 := c13.size
  have bb13 := H_bb12.out.trans (c13.mono H_bb12.out.size)
  have l13 := H_l12.out.below c13
  have e13 := H_e12.out.below c13
  have H_b13 := Lib.hid b13; clear b13; have H_c13 := Lib.hid c13; clear c13; have H_bb13 := Lib.hid bb13; clear bb13; have H_l13 := Lib.hid l13; clear l13; have H_e13 := Lib.hid e13; clear e13
  go_wp2_with (at_builtin; refine wp_app_x w13 (by rfl) (.tmp 146) (.tmp 147) rfl rfl w0.heap.size _ _ 1 1 1 1 [x12] [x12] rfl rfl rfl rfl H_l13.out H_e13.out 2 rfl (by omega) H_bb13.out.size ?_)
  intro A14 c14 w14 own14 g14
  have b14 : Below w0.heap.size w0 w14 := H_bb13.out.grown g14 H_bb13.out.size (fun g hg => by cases hg; exact Nat.le_refl _)
  have e14 := own14.excs (fun c hc => by simp at hc; rw [hc]; exact x12_fit)
  have H_own14 := Lib.hid own14; clear own14; have H_g14 := Lib.hid g14; clear g14; have H_b14 := Lib.hid b14; clear b14; have H_e14 := Lib.hid e14; clear e14
  go_wp2_with fail
  (with_reducible refine (H_q13.out _ _ _ H_e14.out).mono ?_)
  rintro e w15 ⟨rfl, b15⟩
  have bb15 := H_b14.out.trans (b15.mono H_b14.out.size)
  have H_b15 := Lib.hid b15; clear b15; have H_bb15 := Lib.hid bb15; clear bb15
  go_wp2_with fail
  go_ret
  exact ⟨rfl, H_bb15.out⟩
end Go.Proofs.YtaloadadecoogaaDoor
