/- The walk of CodecMatchesReference. -/
import Derived.Test.YtopdgjpoknndmaaCodL1
namespace Go.Proofs.Ytopdgjpoknndmaa
set_option linter.unusedSimpArgs false
set_option linter.unusedVariables false
set_option maxRecDepth 100000
open Go.RowKit

def putR (l : List Int) : List Int × Int := if 4000 < l.length then ([], 2) else (putB l, 0)
def frameR (l : List Int) : List Int × Int := if 4000 < l.length then ([], 2) else (frameB l, 0)
def framesR (b : List Int) : List (List Int) × Int × Int := if 200000 < b.length then ([], 0, 2) else ((framesB b).1, ((framesB b).2 : Nat), 0)
def BytesPost (x : List Int × Int) (w : World) (e : Ending) (w' : World) : Prop :=
  ∃ A c, e = .returned (.tuple #[.slice A x.1.length c, .int .i64 x.2]) ∧ OwnInts w' w.heap.size 5 .u8 A c x.1 ∧ Below w.heap.size w w'
def ListsPost (x : List (List Int) × Int × Int) (w : World) (e : Ending) (w' : World) : Prop :=
  ∃ A c, e = .returned (.tuple #[.slice A x.1.length c, .int .i64 x.2.1, .int .i64 x.2.2]) ∧ OwnLists w' w.heap.size A c x.1 ∧ Below w.heap.size w w'
theorem bytes_no {w : World} {e : Ending} {w' : World} (h : e = .returned (.tuple #[.slice none 0 0, .int .i64 2]) ∧ w = w') : BytesPost ([], 2) w e w' := by
  obtain ⟨rfl, rfl⟩ := h
  exact ⟨none, 0, rfl, OwnInts.nil _ _ _ _, Below.refl _ _⟩
theorem lists_no {w : World} {e : Ending} {w' : World} (h : e = .returned (.tuple #[.slice none 0 0, .int .i64 0, .int .i64 2]) ∧ w = w') : ListsPost ([], 0, 2) w e w' := by
  obtain ⟨rfl, rfl⟩ := h
  exact ⟨none, 0, rfl, OwnLists.nil _ _, Below.refl _ _⟩
section
variable (A : Option Addr) (c : Nat) (l : List Int) (w : World)
theorem codPut_all (hl : IntsAt w A .i64 l) (hb : Fit l) : Calls Try.prog 10 #[.slice A l.length c] w (BytesPost (putR l) w) := by
  unfold putR
  by_cases h : 4000 < l.length
  · rw [if_pos h]; exact (codPut_no A c _ w h).mono fun _ _ => bytes_no
  · rw [if_neg h]; exact codPut_any A c l w hl (by omega) hb
theorem refPut_all (hl : IntsAt w A .i64 l) (hb : Fit l) : Calls Try.prog 11 #[.slice A l.length c] w (BytesPost (putR l) w) := by
  unfold putR
  by_cases h : 4000 < l.length
  · rw [if_pos h]; exact (refPut_no A c _ w h).mono fun _ _ => bytes_no
  · rw [if_neg h]; exact refPut_any A c l w hl (by omega) hb
theorem codFrame_all (hl : IntsAt w A .i64 l) (hb : Fit l) : Calls Try.prog 13 #[.slice A l.length c] w (BytesPost (frameR l) w) := by
  unfold frameR
  by_cases h : 4000 < l.length
  · rw [if_pos h]; exact (codFrame_no A c _ w h).mono fun _ _ => bytes_no
  · rw [if_neg h]; exact codFrame_any A c l w hl (by omega) hb
theorem refFrame_all (hl : IntsAt w A .i64 l) (hb : Fit l) : Calls Try.prog 14 #[.slice A l.length c] w (BytesPost (frameR l) w) := by
  unfold frameR
  by_cases h : 4000 < l.length
  · rw [if_pos h]; exact (refFrame_no A c _ w h).mono fun _ _ => bytes_no
  · rw [if_neg h]; exact refFrame_any A c l w hl (by omega) hb
theorem codFrames_all (hl : IntsAt w A .u8 l) (hcap : l.length ≤ c) (hb : ∀ x ∈ l, 0 ≤ x ∧ x ≤ 255) : Calls Try.prog 18 #[.slice A l.length c] w (ListsPost (framesR l) w) := by
  unfold framesR
  by_cases h : 200000 < l.length
  · rw [if_pos h]; exact (codFrames_no A c _ w h).mono fun _ _ => lists_no
  · rw [if_neg h]; exact codFrames_any A c l w hl (by omega) hcap (bytes_getD hb)
theorem refFrames_all (hl : IntsAt w A .u8 l) (hcap : l.length ≤ c) (hb : ∀ x ∈ l, 0 ≤ x ∧ x ≤ 255) : Calls Try.prog 19 #[.slice A l.length c] w (ListsPost (framesR l) w) := by
  unfold framesR
  by_cases h : 200000 < l.length
  · rw [if_pos h]; exact (refFrames_no A c _ w h).mono fun _ _ => lists_no
  · rw [if_neg h]; exact refFrames_any A c l w hl (by omega) hcap (bytes_getD hb)
end
theorem whole_few {b l : List Int} {n : Nat} (hb : ∀ x ∈ b, 0 ≤ x ∧ x ≤ 255) (h : wholeB b = some (l, n)) : l.length ≤ 4000 := by
  unfold wholeB at h
  by_cases h1 : b.length < 11
  · rw [if_pos h1] at h; cases h
  rw [if_neg h1] at h
  by_cases h2 : b.length < lenB b + 11
  · rw [if_pos h2] at h; cases h
  rw [if_neg h2] at h
  by_cases h3 : (b.drop (3 + lenB b)).take 8 ≠ be8 (sumB 14695981039346656037 (b.take (3 + lenB b)))
  · rw [if_pos h3] at h; cases h
  rw [if_neg h3, Option.map_eq_some_iff] at h
  obtain ⟨a, ha, e⟩ := h
  injection e with e1 e2
  subst e1
  exact (getB_back _ _ (fun x hx => hb x (List.mem_of_mem_take (List.mem_of_mem_drop hx))) ha).2.1
theorem frB_short : ∀ (f : Nat) (b : List Int), (∀ x ∈ b, 0 ≤ x ∧ x ≤ 255) → (∀ l ∈ (frB f b).1, l.length ≤ 4000) ∧ (frB f b).1.length ≤ f
  | 0, b, _ => by simp [frB]
  | f + 1, b, hb => by
    rw [frB]
    cases hw : wholeB b with
    | none => simp
    | some ln =>
      obtain ⟨l, n⟩ := ln
      have ih := frB_short f (b.drop n) fun x hx => hb x (List.mem_of_mem_drop hx)
      dsimp only
      refine ⟨fun x hx => ?_, by simp; exact ih.2⟩
      rcases List.mem_cons.1 hx with rfl | h
      · exact whole_few hb hw
      · exact ih.1 x h
theorem getD_short {ll : List (List Int)} {n : Nat} (h : ∀ l ∈ ll, l.length ≤ n) (k : Nat) : (ll.getD k []).length ≤ n := by
  rcases Nat.lt_or_ge k ll.length with hk | hk
  · exact h _ (by simp [List.getD_eq_getElem?_getD, hk])
  · simp [List.getD_eq_getElem?_getD, hk]
def getR (b : List Int) : List Int × Int := match getB b with | none => ([], 7) | some l => (l, 0)
def IntsPost (x : List Int × Int) (w : World) (e : Ending) (w' : World) : Prop :=
  ∃ A c, e = .returned (.tuple #[.slice A x.1.length c, .int .i64 x.2]) ∧ OwnInts w' w.heap.size 3 .i64 A c x.1 ∧ Below w.heap.size w w'
theorem get_all {l : List Int} {w : World} {e : Ending} {w' : World} (h : GetPost l w e w') : IntsPost (getR l) w e w' := by
  rcases h with ⟨h1, rfl, h2⟩ | ⟨l', h1, A, c, rfl, h2, h3⟩
  · rw [getR, h1]; exact ⟨none, 0, rfl, OwnInts.nil _ _ _ _, h2⟩
  · rw [getR, h1]; exact ⟨A, c, rfl, h2, h3⟩
theorem getR_short {b : List Int} (hb : ∀ x ∈ b, 0 ≤ x ∧ x ≤ 255) : (getR b).1.length ≤ 4000 := by
  unfold getR
  cases h : getB b with
  | none => simp
  | some l => exact (getB_back _ _ hb h).2.1
theorem framesR_short {b : List Int} (hb : ∀ x ∈ b, 0 ≤ x ∧ x ≤ 255) : (∀ k, ((framesR b).1.getD k []).length ≤ 1000000) ∧ (framesR b).1.length ≤ 1000000 := by
  unfold framesR
  by_cases h : 200000 < b.length
  · rw [if_pos h]; simp
  · rw [if_neg h]
    have := frB_short (b.length + 1) b hb
    exact ⟨getD_short fun l hl => by have := this.1 l hl; omega, by have := this.2; show (frB (b.length + 1) b).1.length ≤ _; omega⟩
theorem putR_bytes (l : List Int) : ∀ x ∈ (putR l).1, 0 ≤ x ∧ x ≤ 255 := by
  unfold putR; split
  · simp
  · exact putB_bytes l
theorem frameR_bytes {l : List Int} (h : Fit l) : ∀ x ∈ (frameR l).1, 0 ≤ x ∧ x ≤ 255 := by
  unfold frameR; split
  · simp
  · intro x hx
    have := putB_len l (by omega) h
    simp only [frameB, List.mem_append] at hx
    rcases hx with (hx | hx) | hx
    · exact hdB_bytes _ (by omega) x hx
    · exact putB_bytes l x hx
    · exact be8_bytes _ x hx
theorem sameL_refl (l : List (List Int)) : sameL l l = true := sameL_iff.2 rfl

set_option maxHeartbeats 4000000 in
theorem codecMatches_walk (A : Option Addr) (c : Nat) (l : List Int) (B : Option Addr) (d : Nat) (b : List Int) (w : World) (hl : IntsAt w A .i64 l) (hlc : l.length ≤ c) (hcm : c ≤ maxLen) (hlw : ∀ n ∈ l, (Lit.int .i64 n).wf = true)
    (hb : IntsAt w B .u8 b) (hbc : b.length ≤ d) (hdm : d ≤ maxLen) (hbw : ∀ n ∈ b, (Lit.int .u8 n).wf = true) :
    Calls Try.prog 3 #[.slice A l.length c, .slice B b.length d] w fun e w' => e = .returned (.bool true) ∧ Below w.heap.size w w' := by
  have fl : Fit l := fun x hx => wf_i64 (hlw x hx)
  have fb : ∀ x ∈ b, 0 ≤ x ∧ x ≤ 255 := fun x hx => wf_u8 (hbw x hx)
  have hm1 : l.length ≤ maxLen := by omega
  have hm2 : b.length ≤ maxLen := by omega
  unfold maxLen at hm1 hm2
  have hh := head_any w
  have p1 := fun W h => codPut_all A c l W h fl
  have p2 := fun W h => refPut_all A c l W h fl
  have p3 := fun W h => codFrame_all A c l W h fl
  have p4 := fun W h => refFrame_all A c l W h fl
  have p5 := fun W h => codFrames_all B d b W h hbc fb
  have p6 := fun W h => refFrames_all B d b W h hbc fb
  have y1 := putR_bytes l
  have p7 := fun W h (hs : b.length ≤ 3000) => (codGet_any B d b W h (by omega) hbc (bytes_getD fb)).mono fun _ _ => get_all
  have p8 := fun W h (hs : b.length ≤ 3000) => (refGet_any B d b W h (by omega) hbc (bytes_getD fb)).mono fun _ _ => get_all
  have y5 := getR_short fb
  have y2 := frameR_bytes fl
  obtain ⟨y3, y4⟩ := framesR_short fb
  unfold BytesPost at p1 p2 p3 p4
  unfold ListsPost at p5 p6
  unfold IntsPost at p7 p8
  generalize hX : putR l = X at *
  generalize hY : frameR l = Y at *
  generalize hZ : framesR b = Z at *
  generalize hV : getR b = V at *
  obtain ⟨X, x⟩ := X
  obtain ⟨V, v⟩ := V
  obtain ⟨Y, y⟩ := Y
  obtain ⟨Z, z, z'⟩ := Z
  dsimp only at *
  have H_hl := Lib.hid hl; clear hl; have H_hlc := Lib.hid hlc; clear hlc; have H_hcm := Lib.hid hcm; clear hcm; have H_hlw := Lib.hid hlw; clear hlw; have H_hb := Lib.hid hb; clear hb; have H_hbc := Lib.hid hbc; clear hbc; have H_hdm := Lib.hid hdm; clear hdm; have H_hbw := Lib.hid hbw; clear hbw; have H_fl := Lib.hid fl; clear fl; have H_fb := Lib.hid fb; clear fb; have H_hh := Lib.hid hh; clear hh; have H_p1 := Lib.hid p1; clear p1; have H_p2 := Lib.hid p2; clear p2; have H_p3 := Lib.hid p3; clear p3; have H_p4 := Lib.hid p4; clear p4; have H_p5 := Lib.hid p5; clear p5; have H_p6 := Lib.hid p6; clear p6; have H_p7 := Lib.hid p7; clear p7; have H_p8 := Lib.hid p8; clear p8; have H_hX := Lib.hid hX; clear hX; have H_hY := Lib.hid hY; clear hY; have H_hZ := Lib.hid hZ; clear hZ; have H_hV := Lib.hid hV; clear hV; have H_y1 := Lib.hid y1; clear y1; have H_y2 := Lib.hid y2; clear y2; have H_y3 := Lib.hid y3; clear y3
  go_enter Try.func3, Try.ntmps3
  go_wp2_with fail
  refine H_hh.out.mono ?_
  rintro e w1 ⟨rfl, b1⟩
  have s1 := b1.size
  have l1 := H_hl.out.below b1
  have k1 := H_hb.out.below b1
  have p1 := H_p1.out w1 l1
  have H_b1 := Lib.hid b1; clear b1; have H_l1 := Lib.hid l1; clear l1; have H_k1 := Lib.hid k1; clear k1; have H_p1 := Lib.hid p1; clear p1
  go_wp2_with fail
  all_goals try (go_ret; exact ⟨rfl, H_b1.out⟩; done)
  all_goals
    refine H_p1.out.mono ?_
    rintro e w2 ⟨X1, x1, rfl, o2, b2⟩
    have s2 := b2.size
    have l2 := H_l1.out.below b2
    have k2 := H_k1.out.below b2
    have bb2 := H_b1.out.trans (b2.mono s1)
    have q2 := H_p2.out w2 l2
    have H_o2 := Lib.hid o2; clear o2; have H_b2 := Lib.hid b2; clear b2; have H_l2 := Lib.hid l2; clear l2; have H_k2 := Lib.hid k2; clear k2; have H_bb2 := Lib.hid bb2; clear bb2; have H_q2 := Lib.hid q2; clear q2
    go_wp2_with fail
    refine H_q2.out.mono ?_
    rintro e w3 ⟨X2, x2, rfl, o3, b3⟩
    have s3 := b3.size
    have l3 := H_l2.out.below b3
    have k3 := H_k2.out.below b3
    have bb3 := H_bb2.out.trans (b3.mono (by omega))
    have q3 := sameBytes_any X1 X2 x1 x2 X X w3 (H_o2.out.below b3).ints o3.ints H_y1.out H_y1.out
    rw [sameB_refl] at q3
    have q3b := H_p3.out w3 l3
    have H_o3 := Lib.hid o3; clear o3; have H_b3 := Lib.hid b3; clear b3; have H_l3 := Lib.hid l3; clear l3; have H_k3 := Lib.hid k3; clear k3; have H_bb3 := Lib.hid bb3; clear bb3; have H_q3 := Lib.hid q3; clear q3; have H_q3b := Lib.hid q3b; clear q3b
    go_wp2_with fail
    refine H_q3.out.mono ?_
    rintro e w4 ⟨rfl, rfl⟩
    go_wp2_with fail
    refine H_q3b.out.mono ?_
    rintro e w4 ⟨Y1, y1, rfl, o4, b4⟩
    have s4 := b4.size
    have l4 := H_l3.out.below b4
    have k4 := H_k3.out.below b4
    have bb4 := H_bb3.out.trans (b4.mono (by omega))
    have q4 := H_p4.out w4 l4
    have H_o4 := Lib.hid o4; clear o4; have H_b4 := Lib.hid b4; clear b4; have H_l4 := Lib.hid l4; clear l4; have H_k4 := Lib.hid k4; clear k4; have H_bb4 := Lib.hid bb4; clear bb4; have H_q4 := Lib.hid q4; clear q4
    go_wp2_with fail
    refine H_q4.out.mono ?_
    rintro e w5 ⟨Y2, y2, rfl, o5, b5⟩
    have s5 := b5.size
    have k5 := H_k4.out.below b5
    have bb5 := H_bb4.out.trans (b5.mono (by omega))
    have q5 := sameBytes_any Y1 Y2 y1 y2 Y Y w5 (H_o4.out.below b5).ints o5.ints H_y2.out H_y2.out
    rw [sameB_refl] at q5
    have H_o5 := Lib.hid o5; clear o5; have H_b5 := Lib.hid b5; clear b5; have H_k5 := Lib.hid k5; clear k5; have H_bb5 := Lib.hid bb5; clear bb5; have H_q5 := Lib.hid q5; clear q5
    go_wp2_with fail
    refine H_q5.out.mono ?_
    rintro e w6 ⟨rfl, rfl⟩
    by_cases h3000 : b.length ≤ 3000
    · first | (exfalso; omega) | skip
      all_goals
        have q6 := H_p7.out w5 H_k5.out h3000
        have H_q6 := Lib.hid q6; clear q6
        go_wp2_with fail
        refine H_q6.out.mono ?_
        rintro e w6 ⟨V1, v1, rfl, o6, b6⟩
        have s6 := b6.size
        have k6 := H_k5.out.below b6
        have bb6 := H_bb5.out.trans (b6.mono (by omega))
        have q7 := H_p8.out w6 k6 h3000
        have H_o6 := Lib.hid o6; clear o6; have H_b6 := Lib.hid b6; clear b6; have H_k6 := Lib.hid k6; clear k6; have H_bb6 := Lib.hid bb6; clear bb6; have H_q7 := Lib.hid q7; clear q7
        go_wp2_with fail
        refine H_q7.out.mono ?_
        rintro e w7 ⟨V2, v2, rfl, o7, b7⟩
        have s7 := b7.size
        have k7 := H_k6.out.below b7
        have bb7 := H_bb6.out.trans (b7.mono (by omega))
        have q8 := sameInts_any V1 V2 v1 v2 V V w7 (H_o6.out.below b7).ints o7.ints (by omega) (by omega)
        rw [sameB_refl] at q8
        have H_o7 := Lib.hid o7; clear o7; have H_b7 := Lib.hid b7; clear b7; have H_k7 := Lib.hid k7; clear k7; have H_bb7 := Lib.hid bb7; clear bb7; have H_q8 := Lib.hid q8; clear q8
        go_wp2_with fail
        refine H_q8.out.mono ?_
        rintro e w8 ⟨rfl, q, e8⟩
        have b8 : Below w7.heap.size w7 w8 := by rw [e8]; exact below_drewN (Below.refl _ _) _
        clear e8
        have s8 := b8.size
        have k8 := H_k7.out.below b8
        have bb8 := H_bb7.out.trans (b8.mono (by omega))
        have H_b8 := Lib.hid b8; clear b8; have H_k8 := Lib.hid k8; clear k8; have H_bb8 := Lib.hid bb8; clear bb8
        have t1 := H_p5.out w8 H_k8.out
        have H_t1 := Lib.hid t1; clear t1
        go_wp2_with fail
        refine H_t1.out.mono ?_
        rintro e v1 ⟨Z1, z1, rfl, u1, c1⟩
        have r1 := c1.size
        have k7 := H_k8.out.below c1
        have cc1 := H_bb8.out.trans (c1.mono (by omega))
        have t2 := H_p6.out v1 k7
        have H_u1 := Lib.hid u1; clear u1; have H_c1 := Lib.hid c1; clear c1; have H_k7 := Lib.hid k7; clear k7; have H_cc1 := Lib.hid cc1; clear cc1; have H_t2 := Lib.hid t2; clear t2
        go_wp2_with fail
        refine H_t2.out.mono ?_
        rintro e v2 ⟨Z2, z2, rfl, u2, c2⟩
        have r2 := c2.size
        have cc2 := H_cc1.out.trans (c2.mono (by omega))
        have t3 := sameLists_any Z1 Z2 z1 z2 Z Z v2 (H_u1.out.below c2).lists u2.lists y4 y4 H_y3.out H_y3.out
        rw [sameL_refl] at t3
        have H_u2 := Lib.hid u2; clear u2; have H_c2 := Lib.hid c2; clear c2; have H_cc2 := Lib.hid cc2; clear cc2; have H_t3 := Lib.hid t3; clear t3
        go_wp2_with fail
        refine H_t3.out.mono ?_
        rintro e v3 ⟨rfl, q3, e3⟩
        have c3 : Below v2.heap.size v2 v3 := by rw [e3]; exact below_drewN (Below.refl _ _) _
        clear e3
        have cc3 := H_cc2.out.trans (c3.mono (by omega))
        have H_c3 := Lib.hid c3; clear c3; have H_cc3 := Lib.hid cc3; clear cc3
        go_wp2_with fail
        go_ret
        exact ⟨rfl, H_cc3.out⟩
    · first | (exfalso; omega) | skip
      all_goals
        have h3001 : 3000 < b.length := by omega
        have t1 := H_p5.out w5 H_k5.out
        have H_t1 := Lib.hid t1; clear t1
        go_wp2_with fail
        refine H_t1.out.mono ?_
        rintro e v1 ⟨Z1, z1, rfl, u1, c1⟩
        have r1 := c1.size
        have k7 := H_k5.out.below c1
        have cc1 := H_bb5.out.trans (c1.mono (by omega))
        have t2 := H_p6.out v1 k7
        have H_u1 := Lib.hid u1; clear u1; have H_c1 := Lib.hid c1; clear c1; have H_k7 := Lib.hid k7; clear k7; have H_cc1 := Lib.hid cc1; clear cc1; have H_t2 := Lib.hid t2; clear t2
        go_wp2_with fail
        refine H_t2.out.mono ?_
        rintro e v2 ⟨Z2, z2, rfl, u2, c2⟩
        have r2 := c2.size
        have cc2 := H_cc1.out.trans (c2.mono (by omega))
        have t3 := sameLists_any Z1 Z2 z1 z2 Z Z v2 (H_u1.out.below c2).lists u2.lists y4 y4 H_y3.out H_y3.out
        rw [sameL_refl] at t3
        have H_u2 := Lib.hid u2; clear u2; have H_c2 := Lib.hid c2; clear c2; have H_cc2 := Lib.hid cc2; clear cc2; have H_t3 := Lib.hid t3; clear t3
        go_wp2_with fail
        refine H_t3.out.mono ?_
        rintro e v3 ⟨rfl, q3, e3⟩
        have c3 : Below v2.heap.size v2 v3 := by rw [e3]; exact below_drewN (Below.refl _ _) _
        clear e3
        have cc3 := H_cc2.out.trans (c3.mono (by omega))
        have H_c3 := Lib.hid c3; clear c3; have H_cc3 := Lib.hid cc3; clear cc3
        go_wp2_with fail
        go_ret
        exact ⟨rfl, H_cc3.out⟩
end Go.Proofs.Ytopdgjpoknndmaa
