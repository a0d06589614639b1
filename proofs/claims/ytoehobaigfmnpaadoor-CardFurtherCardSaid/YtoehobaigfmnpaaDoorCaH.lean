/- The statements about cards: guest, head. -/
import Derived.Test.YtoehobaigfmnpaaDoorCaR
import Derived.Deep.CutRange
namespace Go.Proofs.YtoehobaigfmnpaaDoor
set_option linter.unusedSimpArgs false
set_option linter.unusedVariables false
set_option maxRecDepth 100000
open Go.RowKit Go.Maps

/-- the card of a guest that was not signed -/
def gst (id door n : Int) : Crd := ⟨id, 1, door, n, 100, 900, 0, 0, 0⟩
theorem lguest_any (id door n : Int) (w : World) : Calls Tryd.prog 14 #[.int .i64 id, .int .i64 door, .int .i64 n] w fun e w' => e = .returned (.agg #[.int .i64 id, .int .i64 1, .int .i64 door, .int .i64 n, .int .i64 100, .int .i64 900, .int .i64 0, .int .i64 0, .int .i64 0]) ∧ Below w.heap.size w w' := by
  go_enter Tryd.func14, Tryd.ntmps14
  go_wp2_with fail
  refine bodyPost_ret (v := .agg #[.int .i64 id, .int .i64 1, .int .i64 door, .int .i64 n, .int .i64 100, .int .i64 900, .int .i64 0, .int .i64 0, .int .i64 0]) (by simp [results, Tryd.results14, go_sem]) rfl ⟨rfl, (Below.refl _ _).alloc (Nat.le_refl _) _⟩
theorem gst_fit {id door n : Int} (h1 : -9223372036854775808 ≤ id ∧ id ≤ 9223372036854775807) (h2 : -9223372036854775808 ≤ door ∧ door ≤ 9223372036854775807) (h3 : -9223372036854775808 ≤ n ∧ n ≤ 9223372036854775807) : CFit (gst id door n) :=
  ⟨h1, by simp [gst], h2, h3, by simp [gst], by simp [gst], by simp [gst], by simp [gst], by simp [gst]⟩
theorem gst_v {id door n : Int} {e s : Int} (h1 : 1 ≤ id ∧ id ≤ 1000000) (h2 : 1 ≤ door ∧ door ≤ 400) (h3 : 1 ≤ n ∧ n ≤ 1000000000) (he : 0 ≤ e ∧ e < 1073741789) (hs : 0 ≤ s ∧ s < 1073741789) : cvB ((gst id door n).sig e s) = true := by
  exact cvB_iff.2 ⟨⟨he, hs, h1, by simp [gst, Crd.sig], by simp [gst, Crd.sig], by simp [gst, Crd.sig]⟩, .inl ⟨rfl, h2, h3, rfl⟩⟩
theorem sig_nat {s o : Nat} {l : List Int} : (0 ≤ ((sigE s o l : Nat) : Int) ∧ ((sigE s o l : Nat) : Int) < 1073741789) ∧ 0 ≤ ((sigS s o l : Nat) : Int) ∧ ((sigS s o l : Nat) : Int) < 1073741789 := by
  have h1 := sigE_lt s o l
  have h2 := sigS_lt s o l
  have : QQ = 1073741789 := rfl
  omega
theorem chk_right {c : Crd} {s o : Nat} (hv : cvB (c.sig (sigE s o c.msg) (sigS s o c.msg)) = true) : chkB (c.sig (sigE s o c.msg) (sigS s o c.msg)) ((pw 4 s PP : Nat) : Int) = true ∧ chkE (c.sig (sigE s o c.msg) (sigS s o c.msg)) ((pw 4 s PP : Nat) : Int) = 0 := by
  have hm : memZ ((pw 4 s PP : Nat) : Int) = true := memZ_pw
  refine ⟨?_, by simp [chkE, hv, hm]⟩
  rw [chkB, hv, hm, Bool.true_and, Bool.true_and, msg_sig]
  exact right_law s o c.msg
theorem gst8 : CFit (gst 8 12 4) := gst_fit (by omega) (by omega) (by omega)
theorem gst9 : CFit (gst 9 13 9) := gst_fit (by omega) (by omega) (by omega)
theorem flat3 (a b c : Crd) : (a.cells ++ b.cells ++ c.cells) = [a, b, c].flatMap Crd.cells := by simp
/-- what Newest leaves in the head -/
def Hn (w wx : World) (A : Option Addr) (p : Nat) (L : List Crd) : Prop := OwnC wx w.heap.size A p L ∧ Below w.heap.size w wx
set_option maxHeartbeats 8000000 in
theorem head35_any (w0 : World) (ht : Tab w0) : Calls Tryd.prog 11 #[] w0 fun e w' => e = .returned (.bool true) ∧ Below w0.heap.size w0 w' := by
  have hE := @sig_nat 5 77 (gst 7 12 3).msg
  have hEE := @sig_int 5 77 (gst 7 12 3).msg
  have fg : CFit (gst 7 12 3) := gst_fit (by omega) (by omega) (by omega)
  have hv := gst_v (id := 7) (door := 12) (n := 3) (by omega) (by omega) (by omega) hE.1 hE.2
  have hck := chk_right (c := gst 7 12 3) (s := 5) (o := 77) hv
  rw [pw45] at hck
  have fs := fg.sig hEE.1 hEE.2
  have q2 := fun W h => cmake_yes (gst 7 12 3) 5 77 fg (gst_v (by omega) (by omega) (by omega) (by omega) (by omega)) (by decide) (by decide) W h
  have q3 := fun W h => ccheck_any ((gst 7 12 3).sig (sigE 5 77 (gst 7 12 3).msg) (sigS 5 77 (gst 7 12 3).msg)) ((1024 : Nat) : Int) fs W h
  rw [hck.1, hck.2] at q3
  have q4 := fun W X (h1 : IntsAt W X .i64 (gst 7 12 3).msg) h2 => sign_yes 5 77 X 7 7 (gst 7 12 3).msg rfl W (by decide) (by decide) h1 (by omega) fg.msg h2
  have q9 := fun W => cvalid_any ((gst 7 12 3).sig (sigE 5 77 (gst 7 12 3).msg) (sigS 5 77 (gst 7 12 3).msg)) fs W
  rw [hv] at q9
  have fits : ∀ c ∈ [(gst 7 12 3).sig (sigE 5 77 (gst 7 12 3).msg) (sigS 5 77 (gst 7 12 3).msg), gst 8 12 4, gst 9 13 9], CFit c := by
    intro c hc
    simp only [List.mem_cons, List.not_mem_nil, or_false] at hc
    rcases hc with rfl | rfl | rfl
    · exact fs
    · exact gst8
    · exact gst9
  have v8 : cvB (gst 8 12 4) = true := gst_v (e := 0) (s := 0) (by omega) (by omega) (by omega) (by omega) (by omega)
  have v9 : cvB (gst 9 13 9) = true := gst_v (e := 0) (s := 0) (by omega) (by omega) (by omega) (by omega) (by omega)
  have hnE : newE 12 [(gst 7 12 3).sig (sigE 5 77 (gst 7 12 3).msg) (sigS 5 77 (gst 7 12 3).msg), gst 8 12 4, gst 9 13 9] = 0 := newE_iff.2 ⟨by simp, by simp [allV, hv, v8, v9], by omega, by omega⟩
  have hnL : newL 12 [(gst 7 12 3).sig (sigE 5 77 (gst 7 12 3).msg) (sigS 5 77 (gst 7 12 3).msg), gst 8 12 4, gst 9 13 9] = [gst 8 12 4] := by
    simp [newL, nst, ofB, gst, Crd.sig]
  have q5 := fun W X (h : Cards W X [(gst 7 12 3).sig (sigE 5 77 (gst 7 12 3).msg) (sigS 5 77 (gst 7 12 3).msg), gst 8 12 4, gst 9 13 9]) => cnewest_ok X 3 3 _ rfl 12 W h hnE
  rw [hnL] at q5
  have own3 := fun (W : World) (n : Nat) (hn : W.heap.size = n) (vs : Array Value) (hvs : vs.toList = [(gst 7 12 3).sig (sigE 5 77 (gst 7 12 3).msg) (sigS 5 77 (gst 7 12 3).msg), gst 8 12 4, gst 9 13 9].flatMap Crd.cells) => (ownC_lit (base := W.heap.size) _ (Nat.le_refl _) (by simp) hvs hn).cards fits
  have q6 := fun W => cmake_no (gst 7 0 3) ((5 : Nat) : Int) ((77 : Nat) : Int) (gst_fit (by omega) (by omega) (by omega)) (by
    have : cvB ((gst 7 0 3).sig 0 0) = false := by rw [cvB_no]; unfold kindP gst Crd.sig; simp only; omega
    simp [mayMk, this]) W
  have q7 := fun W => cnewest_no none 0 0 [] rfl (by omega) 0 W RowsAt.nil (by
    rcases newE_01 0 [] with h | h
    · have := newE_iff.1 h; omega
    · exact h)
  have q8 := fun W X c (h : OwnC W W.heap.size X c [gst 8 12 4]) => trivial
  have qs := fun W X Y c (h1 : Cards W X [gst 8 12 4]) (h2 : Cards W Y [gst 8 12 4]) => rcsame_any X Y 1 1 c 1 _ _ rfl rfl (by omega) (by omega) W h1 h2
  rw [csB_iff.2 rfl] at qs
  have own1 := fun (W : World) (n : Nat) (hn : W.heap.size = n) => (ownC_lit (base := W.heap.size) [gst 8 12 4] (Nat.le_refl _) (by simp) (vs := (gst 8 12 4).cells.toArray) (by simp) hn).cards (fun c hc => by rw [List.mem_singleton] at hc; rw [hc]; exact gst8)
  have q10 := fun W => cvalid_any Crd.zero cfit_zero W
  rw [show cvB Crd.zero = false by decide] at q10
  clear hck hv hE hEE fits v8 v9 hnE hnL q8
  unfold CardsErr at q5 q7
  have e5 : ((5 : Nat) : Int) = 5 := rfl
  have e77 : ((77 : Nat) : Int) = 77 := rfl
  have e1024 : ((1024 : Nat) : Int) = 1024 := rfl
  simp only [gst, Crd.sig, Crd.msg, Crd.cells, e5, e77, e1024] at q2 q3 q4 q9 q6
  simp only [Crd.zero, Crd.cells] at q6 q10
  simp only [gst, Crd.sig, Crd.msg, Crd.cells, List.flatMap_cons, List.flatMap_nil, List.cons_append, List.nil_append, List.append_nil, List.length_cons, List.length_nil, Nat.reduceAdd] at own3 q5
  simp only [gst, Crd.cells] at own1
  simp only [gst] at qs
  clear fs
  generalize sigE 5 77 [7, 1, 12, 3, 100, 900, 0] = E at *
  generalize sigS 5 77 [7, 1, 12, 3, 100, 900, 0] = S at *
  have bb0 := Below.refl w0.heap.size w0
  have t0 := ht
  have H_q2 := Lib.hid q2; clear q2; have H_q3 := Lib.hid q3; clear q3; have H_q4 := Lib.hid q4; clear q4; have H_q5 := Lib.hid q5; clear q5; have H_q6 := Lib.hid q6; clear q6; have H_q7 := Lib.hid q7; clear q7; have H_q9 := Lib.hid q9; clear q9; have H_q10 := Lib.hid q10; clear q10; have H_qs := Lib.hid qs; clear qs; have H_own1 := Lib.hid own1; clear own1; have H_own3 := Lib.hid own3; clear own3; have H_bb0 := Lib.hid bb0; clear bb0; have H_t0 := Lib.hid t0; clear t0; have H_ht := Lib.hid ht; clear ht; have H_fg := Lib.hid fg; clear fg
  go_enter Tryd.func11, Tryd.ntmps11
  go_wp2_with fail
  (with_reducible refine (lguest_any 7 12 3 _).mono ?_)
  rintro e w1 ⟨rfl, b1⟩
  have c1 : Below w0.heap.size w0 w1 := Below.trans (by (repeat (first | with_reducible exact Below.refl _ _ | with_reducible exact Nat.le_refl _ | with_reducible assumption | with_reducible refine Below.drew ?_ | with_reducible refine below_drewN ?_ _ | with_reducible refine Below.alloc ?_ ?_ _ | with_reducible refine Below.setCell ?_ ?_ _ | with_reducible exact And.right (by assumption) | with_reducible refine Below.trans ?_ (Below.mono (by assumption) ?_) | with_reducible exact Below.size (And.right (by assumption)) | (focus omega) | (focus (simp; done)) | (focus (simp; omega)) | (focus (simp at *; omega))))) (b1.mono (by first | exact Nat.le_refl _ | omega | (simp; done) | (simp; omega)))
  have s1 := c1.size
  have bb1 := H_bb0.out.trans (c1.mono H_bb0.out.size)
  have t1 := H_t0.out.below c1
  have H_b1 := Lib.hid b1; clear b1; have H_c1 := Lib.hid c1; clear c1; have H_bb1 := Lib.hid bb1; clear bb1; have H_t1 := Lib.hid t1; clear t1
  go_wp2_with fail
  (with_reducible refine (H_q2.out _ ?_).mono ?_)
  · exact H_t1.out.below (show Below w1.heap.size w1 _ by (repeat (first | with_reducible exact Below.refl _ _ | with_reducible exact Nat.le_refl _ | with_reducible assumption | with_reducible refine Below.drew ?_ | with_reducible refine below_drewN ?_ _ | with_reducible refine Below.alloc ?_ ?_ _ | with_reducible refine Below.setCell ?_ ?_ _ | with_reducible exact And.right (by assumption) | with_reducible refine Below.trans ?_ (Below.mono (by assumption) ?_) | with_reducible exact Below.size (And.right (by assumption)) | (focus omega) | (focus (simp; done)) | (focus (simp; omega)) | (focus (simp at *; omega)))))
  rintro e w2 ⟨rfl, b2⟩
  have c2 : Below w1.heap.size w1 w2 := Below.trans (by (repeat (first | with_reducible exact Below.refl _ _ | with_reducible exact Nat.le_refl _ | with_reducible assumption | with_reducible refine Below.drew ?_ | with_reducible refine below_drewN ?_ _ | with_reducible refine Below.alloc ?_ ?_ _ | with_reducible refine Below.setCell ?_ ?_ _ | with_reducible exact And.right (by assumption) | with_reducible refine Below.trans ?_ (Below.mono (by assumption) ?_) | with_reducible exact Below.size (And.right (by assumption)) | (focus omega) | (focus (simp; done)) | (focus (simp; omega)) | (focus (simp at *; omega))))) (b2.mono (by first | exact Nat.le_refl _ | omega | (simp; done) | (simp; omega)))
  have s2 := c2.size
  have bb2 := H_bb1.out.trans (c2.mono H_bb1.out.size)
  have t2 := H_t1.out.below c2
  have H_b2 := Lib.hid b2; clear b2; have H_c2 := Lib.hid c2; clear c2; have H_bb2 := Lib.hid bb2; clear bb2; have H_t2 := Lib.hid t2; clear t2
  go_wp2_with fail
  (with_reducible refine (H_q3.out _ ?_).mono ?_)
  · exact H_t2.out.below (show Below w2.heap.size w2 _ by (repeat (first | with_reducible exact Below.refl _ _ | with_reducible exact Nat.le_refl _ | with_reducible assumption | with_reducible refine Below.drew ?_ | with_reducible refine below_drewN ?_ _ | with_reducible refine Below.alloc ?_ ?_ _ | with_reducible refine Below.setCell ?_ ?_ _ | with_reducible exact And.right (by assumption) | with_reducible refine Below.trans ?_ (Below.mono (by assumption) ?_) | with_reducible exact Below.size (And.right (by assumption)) | (focus omega) | (focus (simp; done)) | (focus (simp; omega)) | (focus (simp at *; omega)))))
  rintro e w3 ⟨rfl, b3⟩
  have c3 : Below w2.heap.size w2 w3 := Below.trans (by (repeat (first | with_reducible exact Below.refl _ _ | with_reducible exact Nat.le_refl _ | with_reducible assumption | with_reducible refine Below.drew ?_ | with_reducible refine below_drewN ?_ _ | with_reducible refine Below.alloc ?_ ?_ _ | with_reducible refine Below.setCell ?_ ?_ _ | with_reducible exact And.right (by assumption) | with_reducible refine Below.trans ?_ (Below.mono (by assumption) ?_) | with_reducible exact Below.size (And.right (by assumption)) | (focus omega) | (focus (simp; done)) | (focus (simp; omega)) | (focus (simp at *; omega))))) (b3.mono (by first | exact Nat.le_refl _ | omega | (simp; done) | (simp; omega)))
  have s3 := c3.size
  have bb3 := H_bb2.out.trans (c3.mono H_bb2.out.size)
  have t3 := H_t2.out.below c3
  have H_b3 := Lib.hid b3; clear b3; have H_c3 := Lib.hid c3; clear c3; have H_bb3 := Lib.hid bb3; clear bb3; have H_t3 := Lib.hid t3; clear t3
  have d3 : Blk w3 w2.heap.size #[.int .i64 7, .int .i64 1, .int .i64 12, .int .i64 3, .int .i64 100, .int .i64 900, .int .i64 0, .int .i64 E, .int .i64 S] := (blk_new rfl).below H_b3.out
  have H_d3 := Lib.hid d3; clear d3
  go_wp2_with fail
  (with_reducible refine (H_q4.out _ _ ?_ ?_).mono ?_)
  · exact ints_lit (w := w3) [7, 1, 12, 3, 100, 900, 0] _ rfl
  · exact H_t3.out.below (show Below w3.heap.size w3 _ by (repeat (first | with_reducible exact Below.refl _ _ | with_reducible exact Nat.le_refl _ | with_reducible assumption | with_reducible refine Below.drew ?_ | with_reducible refine below_drewN ?_ _ | with_reducible refine Below.alloc ?_ ?_ _ | with_reducible refine Below.setCell ?_ ?_ _ | with_reducible exact And.right (by assumption) | with_reducible refine Below.trans ?_ (Below.mono (by assumption) ?_) | with_reducible exact Below.size (And.right (by assumption)) | (focus omega) | (focus (simp; done)) | (focus (simp; omega)) | (focus (simp at *; omega)))))
  rintro e w4 ⟨rfl, b4⟩
  have c4 : Below w3.heap.size w3 w4 := Below.trans (by (repeat (first | with_reducible exact Below.refl _ _ | with_reducible exact Nat.le_refl _ | with_reducible assumption | with_reducible refine Below.drew ?_ | with_reducible refine below_drewN ?_ _ | with_reducible refine Below.alloc ?_ ?_ _ | with_reducible refine Below.setCell ?_ ?_ _ | with_reducible exact And.right (by assumption) | with_reducible refine Below.trans ?_ (Below.mono (by assumption) ?_) | with_reducible exact Below.size (And.right (by assumption)) | (focus omega) | (focus (simp; done)) | (focus (simp; omega)) | (focus (simp at *; omega))))) (b4.mono (by first | exact Nat.le_refl _ | omega | (simp; done) | (simp; omega)))
  have s4 := c4.size
  have bb4 := H_bb3.out.trans (c4.mono H_bb3.out.size)
  have t4 := H_t3.out.below c4
  have d4 := H_d3.out.below c4
  have H_b4 := Lib.hid b4; clear b4; have H_c4 := Lib.hid c4; clear c4; have H_bb4 := Lib.hid bb4; clear bb4; have H_t4 := Lib.hid t4; clear t4; have H_d4 := Lib.hid d4; clear d4
  go_upto_region 4 with (fail)
  obtain ⟨w5, hw5⟩ : ∃ W, w4.alloc (.cells #[.int .i64 E, .int .i64 S] 29) = W := ⟨_, rfl⟩
  rw [hw5]
  have c5 : Below w4.heap.size w4 w5 := by rw [← hw5]; exact (Below.refl _ _).alloc (Nat.le_refl _) _
  have g5 : Blk w5 w4.heap.size #[.int .i64 E, .int .i64 S] := by rw [← hw5]; exact blk_new rfl
  have d5 := H_d4.out.below c5
  have t5 := H_t4.out.below c5
  have bb5 := H_bb4.out.trans (c5.mono H_bb4.out.size)
  have l5 := (d5 0 _ rfl).lt
  have H_hw5 := Lib.hid hw5; clear hw5; have H_c5 := Lib.hid c5; clear c5; have H_g5 := Lib.hid g5; clear g5; have H_d5 := Lib.hid d5; clear d5; have H_t5 := Lib.hid t5; clear t5; have H_bb5 := Lib.hid bb5; clear bb5
  have yd0 := (H_d5.out 0 _ rfl).at
  have yd1 := (H_d5.out 1 _ rfl).at
  have yd2 := (H_d5.out 2 _ rfl).at
  have yd3 := (H_d5.out 3 _ rfl).at
  have yd4 := (H_d5.out 4 _ rfl).at
  have yd5 := (H_d5.out 5 _ rfl).at
  have yd6 := (H_d5.out 6 _ rfl).at
  have yd7 := (H_d5.out 7 _ rfl).at
  have yd8 := (H_d5.out 8 _ rfl).at
  go_cut [7, 8] from 29 to 36 (fun c7 c8 wx => c8 = .int .i64 0 ∧ ∃ (A : Option Addr) (p : Nat), c7 = .slice A 1 p ∧ Hn w5 wx A p [⟨8, 1, 12, 4, 100, 900, 0, 0, 0⟩])
  case first =>
    go_region_held3 (fun W => (∀ b o, b < w5.heap.size → W.cell? ⟨b, o, none⟩ = w5.cell? ⟨b, o, none⟩) ∧ Below w5.heap.size w5 W) (first | (refine ext_mk ?_; (repeat (first | with_reducible exact Below.refl _ _ | with_reducible exact Nat.le_refl _ | with_reducible assumption | with_reducible refine Below.drew ?_ | with_reducible refine below_drewN ?_ _ | with_reducible refine Below.alloc ?_ ?_ _ | with_reducible refine Below.setCell ?_ ?_ _ | with_reducible exact And.right (by assumption) | with_reducible refine Below.trans ?_ (Below.mono (by assumption) ?_) | with_reducible exact Below.size (And.right (by assumption)) | (focus omega) | (focus (simp; done)) | (focus (simp; omega)) | (focus (simp at *; omega)))))) (first | (go_at_call 14; (with_reducible refine (lguest_any 8 12 4 _).mono ?_); rintro e w6 ⟨rfl, hbw6⟩; have gw6 := Below.trans (And.right (by assumption : _ ∧ Below w5.heap.size w5 _)) (hbw6.mono (Below.size (And.right (by assumption : _ ∧ Below w5.heap.size w5 _)))); have gsw6 := gw6.size; have hcf := bcell hbw6; have hcw6 := hcf.1; have hfw6 := hcf.2; have hsw6 := hbw6.size; (try simp only [World.size_alloc, World.heap_drewN, heap_drew] at hsw6); clear hbw6 hcf; (try have hzw6 : w5.heap.size < w6.heap.size := by omega)) | (go_at_call 14; (with_reducible refine (lguest_any 9 13 9 _).mono ?_); rintro e w7 ⟨rfl, hbw7⟩; have gw7 := Below.trans (And.right (by assumption : _ ∧ Below w5.heap.size w5 _)) (hbw7.mono (Below.size (And.right (by assumption : _ ∧ Below w5.heap.size w5 _)))); have gsw7 := gw7.size; have hcf := bcell hbw7; have hcw7 := hcf.1; have hfw7 := hcf.2; have hsw7 := hbw7.size; (try simp only [World.size_alloc, World.heap_drewN, heap_drew] at hsw7); clear hbw7 hcf; (try have hzw7 : w5.heap.size < w7.heap.size := by omega)) | (go_at_call 12; (with_reducible refine (H_q5.out _ _ ?_).mono ?_); (focus (exact H_own3.out _ _ rfl _ rfl)); rintro e w8 ⟨A8, p8, rfl, o8, hbw8⟩; have gw8 := Below.trans (And.right (by assumption : _ ∧ Below w5.heap.size w5 _)) (hbw8.mono (Below.size (And.right (by assumption : _ ∧ Below w5.heap.size w5 _)))); have gsw8 := gw8.size; have hcf := bcell hbw8; have hcw8 := hcf.1; have hfw8 := hcf.2; have hsw8 := hbw8.size; (try simp only [World.size_alloc, World.heap_drewN, heap_drew] at hsw8); clear hbw8 hcf; (try have hzw8 : w5.heap.size < w8.heap.size := by omega)))
    all_goals
      go_wp2_with fail
      have hh : Hn w5 w8 A8 p8 [⟨8, 1, 12, 4, 100, 900, 0, 0, 0⟩] := ⟨OwnRows.base_le o8 (by simp; omega), gw8⟩
      have H_hh := Lib.hid hh; clear hh
      go_meet
      case rel => exact ⟨rfl, A8, p8, rfl, H_hh.out⟩
  case rest =>
    obtain ⟨rfl, A6, p6, rfl, hh⟩ := hcut
    obtain ⟨w6, hw6⟩ : ∃ W, wc = W := ⟨_, rfl⟩
    rw [hw6] at hh ⊢
    obtain ⟨o6, c6⟩ := hh
    have d6 := H_d5.out.below c6
    have g6 := H_g5.out.below c6
    have t6 := H_t5.out.below c6
    have bb6 := H_bb5.out.trans (c6.mono H_bb5.out.size)
    have cc6 := o6.cards (fun c hc => by rw [List.mem_singleton] at hc; rw [hc]; exact gst8)
    clear yd0 yd1 yd2 yd3 yd4 yd5 yd6 yd7 yd8
    have H_o6 := Lib.hid o6; clear o6; have H_c6 := Lib.hid c6; clear c6; have H_d6 := Lib.hid d6; clear d6; have H_g6 := Lib.hid g6; clear g6; have H_t6 := Lib.hid t6; clear t6; have H_bb6 := Lib.hid bb6; clear bb6; have H_hw6 := Lib.hid hw6; clear hw6; have H_cc6 := Lib.hid cc6; clear cc6
    go_wp2_with fail
    (with_reducible refine (lguest_any 7 0 3 _).mono ?_)
    rintro e w7 ⟨rfl, b7⟩
    have c7 : Below w6.heap.size w6 w7 := Below.trans (by (repeat (first | with_reducible exact Below.refl _ _ | with_reducible exact Nat.le_refl _ | with_reducible assumption | with_reducible refine Below.drew ?_ | with_reducible refine below_drewN ?_ _ | with_reducible refine Below.alloc ?_ ?_ _ | with_reducible refine Below.setCell ?_ ?_ _ | with_reducible exact And.right (by assumption) | with_reducible refine Below.trans ?_ (Below.mono (by assumption) ?_) | with_reducible exact Below.size (And.right (by assumption)) | (focus omega) | (focus (simp; done)) | (focus (simp; omega)) | (focus (simp at *; omega))))) (b7.mono (by first | exact Nat.le_refl _ | omega | (simp; done) | (simp; omega)))
    have s7 := c7.size
    have bb7 := H_bb6.out.trans (c7.mono H_bb6.out.size)
    have t7 := H_t6.out.below c7
    have d7 := H_d6.out.below c7
    have g7 := H_g6.out.below c7
    have cc7 := H_cc6.out.below c7
    have H_b7 := Lib.hid b7; clear b7; have H_c7 := Lib.hid c7; clear c7; have H_bb7 := Lib.hid bb7; clear bb7; have H_t7 := Lib.hid t7; clear t7; have H_d7 := Lib.hid d7; clear d7; have H_g7 := Lib.hid g7; clear g7; have H_cc7 := Lib.hid cc7; clear cc7
    go_wp2_with fail
    (with_reducible refine (H_q6.out _).mono ?_)
    rintro e w8 ⟨rfl, b8⟩
    have c8 : Below w7.heap.size w7 w8 := Below.trans (by (repeat (first | with_reducible exact Below.refl _ _ | with_reducible exact Nat.le_refl _ | with_reducible assumption | with_reducible refine Below.drew ?_ | with_reducible refine below_drewN ?_ _ | with_reducible refine Below.alloc ?_ ?_ _ | with_reducible refine Below.setCell ?_ ?_ _ | with_reducible exact And.right (by assumption) | with_reducible refine Below.trans ?_ (Below.mono (by assumption) ?_) | with_reducible exact Below.size (And.right (by assumption)) | (focus omega) | (focus (simp; done)) | (focus (simp; omega)) | (focus (simp at *; omega))))) (b8.mono (by first | exact Nat.le_refl _ | omega | (simp; done) | (simp; omega)))
    have s8 := c8.size
    have bb8 := H_bb7.out.trans (c8.mono H_bb7.out.size)
    have t8 := H_t7.out.below c8
    have d8 := H_d7.out.below c8
    have g8 := H_g7.out.below c8
    have cc8 := H_cc7.out.below c8
    have H_b8 := Lib.hid b8; clear b8; have H_c8 := Lib.hid c8; clear c8; have H_bb8 := Lib.hid bb8; clear bb8; have H_t8 := Lib.hid t8; clear t8; have H_d8 := Lib.hid d8; clear d8; have H_g8 := Lib.hid g8; clear g8; have H_cc8 := Lib.hid cc8; clear cc8
    go_wp2_with fail
    (with_reducible refine (H_q7.out _).mono ?_)
    rintro e w9 ⟨A9, p9, rfl, _, b9⟩
    have c9 : Below w8.heap.size w8 w9 := Below.trans (by (repeat (first | with_reducible exact Below.refl _ _ | with_reducible exact Nat.le_refl _ | with_reducible assumption | with_reducible refine Below.drew ?_ | with_reducible refine below_drewN ?_ _ | with_reducible refine Below.alloc ?_ ?_ _ | with_reducible refine Below.setCell ?_ ?_ _ | with_reducible exact And.right (by assumption) | with_reducible refine Below.trans ?_ (Below.mono (by assumption) ?_) | with_reducible exact Below.size (And.right (by assumption)) | (focus omega) | (focus (simp; done)) | (focus (simp; omega)) | (focus (simp at *; omega))))) (b9.mono (by first | exact Nat.le_refl _ | omega | (simp; done) | (simp; omega)))
    have s9 := c9.size
    have bb9 := H_bb8.out.trans (c9.mono H_bb8.out.size)
    have t9 := H_t8.out.below c9
    have d9 := H_d8.out.below c9
    have g9 := H_g8.out.below c9
    have cc9 := H_cc8.out.below c9
    have H_b9 := Lib.hid b9; clear b9; have H_c9 := Lib.hid c9; clear c9; have H_bb9 := Lib.hid bb9; clear bb9; have H_t9 := Lib.hid t9; clear t9; have H_d9 := Lib.hid d9; clear d9; have H_g9 := Lib.hid g9; clear g9; have H_cc9 := Lib.hid cc9; clear cc9
    have yd0 := (H_d9.out 0 _ rfl).at
    have yd1 := (H_d9.out 1 _ rfl).at
    have yd2 := (H_d9.out 2 _ rfl).at
    have yd3 := (H_d9.out 3 _ rfl).at
    have yd4 := (H_d9.out 4 _ rfl).at
    have yd5 := (H_d9.out 5 _ rfl).at
    have yd6 := (H_d9.out 6 _ rfl).at
    have yd7 := (H_d9.out 7 _ rfl).at
    have yd8 := (H_d9.out 8 _ rfl).at
    have yg0 := (H_g9.out 0 _ rfl).at
    have yg1 := (H_g9.out 1 _ rfl).at
    go_wp2_with fail
    (with_reducible refine (lguest_any 8 12 4 _).mono ?_)
    rintro e w10 ⟨rfl, b10⟩
    have c10 : Below w9.heap.size w9 w10 := Below.trans (by (repeat (first | with_reducible exact Below.refl _ _ | with_reducible exact Nat.le_refl _ | with_reducible assumption | with_reducible refine Below.drew ?_ | with_reducible refine below_drewN ?_ _ | with_reducible refine Below.alloc ?_ ?_ _ | with_reducible refine Below.setCell ?_ ?_ _ | with_reducible exact And.right (by assumption) | with_reducible refine Below.trans ?_ (Below.mono (by assumption) ?_) | with_reducible exact Below.size (And.right (by assumption)) | (focus omega) | (focus (simp; done)) | (focus (simp; omega)) | (focus (simp at *; omega))))) (b10.mono (by first | exact Nat.le_refl _ | omega | (simp; done) | (simp; omega)))
    have s10 := c10.size
    have bb10 := H_bb9.out.trans (c10.mono H_bb9.out.size)
    have t10 := H_t9.out.below c10
    have d10 := H_d9.out.below c10
    have g10 := H_g9.out.below c10
    have cc10 := H_cc9.out.below c10
    have H_b10 := Lib.hid b10; clear b10; have H_c10 := Lib.hid c10; clear c10; have H_bb10 := Lib.hid bb10; clear bb10; have H_t10 := Lib.hid t10; clear t10; have H_d10 := Lib.hid d10; clear d10; have H_g10 := Lib.hid g10; clear g10; have H_cc10 := Lib.hid cc10; clear cc10
    clear yd0 yd1 yd2 yd3 yd4 yd5 yd6 yd7 yd8
    clear yg0 yg1
    have yd0 := (H_d10.out 0 _ rfl).at
    have yd1 := (H_d10.out 1 _ rfl).at
    have yd2 := (H_d10.out 2 _ rfl).at
    have yd3 := (H_d10.out 3 _ rfl).at
    have yd4 := (H_d10.out 4 _ rfl).at
    have yd5 := (H_d10.out 5 _ rfl).at
    have yd6 := (H_d10.out 6 _ rfl).at
    have yd7 := (H_d10.out 7 _ rfl).at
    have yd8 := (H_d10.out 8 _ rfl).at
    go_wp2_with fail
    (with_reducible refine (H_qs.out _ _ _ _ ?_ ?_).mono ?_)
    · exact H_cc10.out.below (show Below w10.heap.size w10 _ by (repeat (first | with_reducible exact Below.refl _ _ | with_reducible exact Nat.le_refl _ | with_reducible assumption | with_reducible refine Below.drew ?_ | with_reducible refine below_drewN ?_ _ | with_reducible refine Below.alloc ?_ ?_ _ | with_reducible refine Below.setCell ?_ ?_ _ | with_reducible exact And.right (by assumption) | with_reducible refine Below.trans ?_ (Below.mono (by assumption) ?_) | with_reducible exact Below.size (And.right (by assumption)) | (focus omega) | (focus (simp; done)) | (focus (simp; omega)) | (focus (simp at *; omega)))))
    · exact H_own1.out _ _ rfl
    rintro e w11 ⟨rfl, b11⟩
    have c11 : Below w10.heap.size w10 w11 := Below.trans (by (repeat (first | with_reducible exact Below.refl _ _ | with_reducible exact Nat.le_refl _ | with_reducible assumption | with_reducible refine Below.drew ?_ | with_reducible refine below_drewN ?_ _ | with_reducible refine Below.alloc ?_ ?_ _ | with_reducible refine Below.setCell ?_ ?_ _ | with_reducible exact And.right (by assumption) | with_reducible refine Below.trans ?_ (Below.mono (by assumption) ?_) | with_reducible exact Below.size (And.right (by assumption)) | (focus omega) | (focus (simp; done)) | (focus (simp; omega)) | (focus (simp at *; omega))))) (b11.mono (by first | exact Nat.le_refl _ | omega | (simp; done) | (simp; omega)))
    have s11 := c11.size
    have bb11 := H_bb10.out.trans (c11.mono H_bb10.out.size)
    have t11 := H_t10.out.below c11
    have d11 := H_d10.out.below c11
    have H_b11 := Lib.hid b11; clear b11; have H_c11 := Lib.hid c11; clear c11; have H_bb11 := Lib.hid bb11; clear bb11; have H_t11 := Lib.hid t11; clear t11; have H_d11 := Lib.hid d11; clear d11
    clear yd0 yd1 yd2 yd3 yd4 yd5 yd6 yd7 yd8
    have yd0 := (H_d11.out 0 _ rfl).at
    have yd1 := (H_d11.out 1 _ rfl).at
    have yd2 := (H_d11.out 2 _ rfl).at
    have yd3 := (H_d11.out 3 _ rfl).at
    have yd4 := (H_d11.out 4 _ rfl).at
    have yd5 := (H_d11.out 5 _ rfl).at
    have yd6 := (H_d11.out 6 _ rfl).at
    have yd7 := (H_d11.out 7 _ rfl).at
    have yd8 := (H_d11.out 8 _ rfl).at
    go_wp2_with fail
    (with_reducible refine (H_q9.out _).mono ?_)
    rintro e w12 ⟨rfl, b12⟩
    have c12 : Below w11.heap.size w11 w12 := Below.trans (by (repeat (first | with_reducible exact Below.refl _ _ | with_reducible exact Nat.le_refl _ | with_reducible assumption | with_reducible refine Below.drew ?_ | with_reducible refine below_drewN ?_ _ | with_reducible refine Below.alloc ?_ ?_ _ | with_reducible refine Below.setCell ?_ ?_ _ | with_reducible exact And.right (by assumption) | with_reducible refine Below.trans ?_ (Below.mono (by assumption) ?_) | with_reducible exact Below.size (And.right (by assumption)) | (focus omega) | (focus (simp; done)) | (focus (simp; omega)) | (focus (simp at *; omega))))) (b12.mono (by first | exact Nat.le_refl _ | omega | (simp; done) | (simp; omega)))
    have s12 := c12.size
    have bb12 := H_bb11.out.trans (c12.mono H_bb11.out.size)
    have H_b12 := Lib.hid b12; clear b12; have H_c12 := Lib.hid c12; clear c12; have H_bb12 := Lib.hid bb12; clear bb12
    clear yd0 yd1 yd2 yd3 yd4 yd5 yd6 yd7 yd8
    go_wp2_with fail
    (with_reducible refine (H_q10.out _).mono ?_)
    rintro e w13 ⟨rfl, b13⟩
    have c13 : Below w12.heap.size w12 w13 := Below.trans (by (repeat (first | with_reducible exact Below.refl _ _ | with_reducible exact Nat.le_refl _ | with_reducible assumption | with_reducible refine Below.drew ?_ | with_reducible refine below_drewN ?_ _ | with_reducible refine Below.alloc ?_ ?_ _ | with_reducible refine Below.setCell ?_ ?_ _ | with_reducible exact And.right (by assumption) | with_reducible refine Below.trans ?_ (Below.mono (by assumption) ?_) | with_reducible exact Below.size (And.right (by assumption)) | (focus omega) | (focus (simp; done)) | (focus (simp; omega)) | (focus (simp at *; omega))))) (b13.mono (by first | exact Nat.le_refl _ | omega | (simp; done) | (simp; omega)))
    have s13 := c13.size
    have bb13 := H_bb12.out.trans (c13.mono H_bb12.out.size)
    have H_b13 := Lib.hid b13; clear b13; have H_c13 := Lib.hid c13; clear c13; have H_bb13 := Lib.hid bb13; clear bb13
    go_wp2_with fail
    go_ret
    exact ⟨rfl, H_bb13.out⟩
end Go.Proofs.YtoehobaigfmnpaaDoor
