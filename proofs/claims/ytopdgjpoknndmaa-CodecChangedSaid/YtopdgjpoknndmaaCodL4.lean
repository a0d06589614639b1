/- The walk of CodecBehind. -/
import Derived.Test.YtopdgjpoknndmaaCodL2
namespace Go.Proofs.Ytopdgjpoknndmaa
set_option linter.unusedSimpArgs false
set_option linter.unusedVariables false
set_option maxRecDepth 100000
open Go.RowKit

theorem allB_len : ∀ (ll : List (List Int)), (∀ l ∈ ll, l.length ≤ 30 ∧ Fit l) → (allB ll).length ≤ 400 * ll.length
  | [], _ => by simp [allB]
  | l :: r, h => by
    have h1 := frame_short (h l (by simp)).1 (h l (by simp)).2
    have h2 := allB_len r fun x hx => h x (by simp [hx])
    simp only [allB, List.flatMap_cons, List.length_append, List.length_cons] at h2 ⊢
    omega
theorem allB_bytes (ll : List (List Int)) (h : ∀ l ∈ ll, l.length ≤ 30 ∧ Fit l) : ∀ x ∈ allB ll, 0 ≤ x ∧ x ≤ 255 := fun x hx => by
  obtain ⟨l, hl, hx⟩ := List.mem_flatMap.1 hx
  have := frameR_bytes (h l hl).2
  rw [frameR, if_neg (by have := (h l hl).1; omega)] at this
  exact this x hx
theorem codFrames_at (A : Option Addr) (c n : Nat) (l : List Int) (hln : l.length = n) (w : World) (hl : IntsAt w A .u8 l) (hn2 : n ≤ 200000) (hcap : n ≤ c) (hb : ∀ i, 0 ≤ l.getD i 0 ∧ l.getD i 0 ≤ 255) :
    Calls Try.prog 18 #[.slice A n c] w (FrPost l w) := by subst hln; exact codFrames_any A c l w hl hn2 hcap hb
theorem ListsAt.dropM {w : World} {M : Option Addr} {ll : List (List Int)} (h : ListsAt w M ll) (n : Nat) : ListsAt w (Option.map (fun x => x.add n) M) (ll.drop n) := fun i hi => by
  have hi' : n + i < ll.length := by simp at hi; omega
  obtain ⟨b, off, Ai, ci, rfl, hlt, hc, hcap, hin⟩ := h (n + i) hi'
  have e2 : (ll.drop n).getD i [] = ll.getD (n + i) [] := by simp [List.getD_eq_getElem?_getD, List.getElem?_drop]
  rw [e2]
  refine ⟨b, off + n, Ai, ci, ?_, hlt, by rw [Nat.add_assoc]; exact hc, hcap, hin⟩
  simp only [Option.map_some, Addr.add]
  split
  · rename_i h0; rw [h0]; rfl
  · rfl
theorem frB_le : ∀ (f : Nat) (b : List Int), (frB f b).2 ≤ b.length
  | 0, b => by simp [frB]
  | f + 1, b => by
    rw [frB]
    cases hw : wholeB b with
    | none => simp
    | some ln =>
      obtain ⟨l, n⟩ := ln
      have h1 := whole_len hw
      have ih := frB_le f (b.drop n)
      rw [List.length_drop] at ih
      dsimp only
      omega
theorem framesB_short {b : List Int} (hb : ∀ x ∈ b, 0 ≤ x ∧ x ≤ 255) (h : b.length ≤ 200000) : (∀ k, ((framesB b).1.getD k []).length ≤ 1000000) ∧ (framesB b).1.length ≤ b.length + 1 := by
  have := frB_short (b.length + 1) b hb
  exact ⟨getD_short fun l hl => by have := this.1 l hl; omega, this.2⟩

set_option maxHeartbeats 4000000 in
theorem codecBehind_walk (A : Option Addr) (c : Nat) (ll : List (List Int)) (B : Option Addr) (d : Nat) (b : List Int) (w : World) (hl : ListsAt w A ll) (hlc : ll.length ≤ c) (hcm : c ≤ maxLen) (hlw : ∀ l ∈ ll, l.length ≤ maxLen ∧ ∀ n ∈ l, (Lit.int .i64 n).wf = true)
    (hb : IntsAt w B .u8 b) (hbc : b.length ≤ d) (hdm : d ≤ maxLen) (hbw : ∀ n ∈ b, (Lit.int .u8 n).wf = true) :
    Calls Try.prog 6 #[.slice A ll.length c, .slice B b.length d] w fun e w' => e = .returned (.bool true) ∧ Below w.heap.size w w' := by
  obtain ⟨i0, hi, hz0, hz1, hz2⟩ := info_parts infoU8
  have fl : ∀ l ∈ ll, Fit l := fun l hl x hx => wf_i64 ((hlw l hl).2 x hx)
  have fb : ∀ x ∈ b, 0 ≤ x ∧ x ≤ 255 := fun x hx => wf_u8 (hbw x hx)
  have hm1 : ll.length ≤ maxLen := by omega
  have hm2 : b.length ≤ maxLen := by omega
  have hm3 : ∀ k, (ll.getD k []).length ≤ maxLen := getD_short fun l hl => (hlw l hl).1
  unfold maxLen at hm1 hm2 hm3
  have hh := head_any w
  have H_hl := Lib.hid hl; clear hl; have H_hlc := Lib.hid hlc; clear hlc; have H_hcm := Lib.hid hcm; clear hcm; have H_hlw := Lib.hid hlw; clear hlw; have H_hb := Lib.hid hb; clear hb; have H_hbc := Lib.hid hbc; clear hbc; have H_hdm := Lib.hid hdm; clear hdm; have H_hbw := Lib.hid hbw; clear hbw; have H_fl := Lib.hid fl; clear fl; have H_fb := Lib.hid fb; clear fb; have H_hh := Lib.hid hh; clear hh; have H_hm3 := Lib.hid hm3; clear hm3
  go_enter Try.func6, Try.ntmps6
  go_wp2_with fail
  refine H_hh.out.mono ?_
  rintro e w1 ⟨rfl, b1⟩
  have s1 := b1.size
  have l1 := H_hl.out.below b1
  have k1 := H_hb.out.below b1
  have q1 := small_any A c ll w1 l1 H_hm3.out (by omega)
  have H_b1 := Lib.hid b1; clear b1; have H_l1 := Lib.hid l1; clear l1; have H_k1 := Lib.hid k1; clear k1; have H_q1 := Lib.hid q1; clear q1
  go_wp2_with fail
  refine H_q1.out.mono ?_
  rintro e w2 ⟨rfl, rfl⟩
  by_cases hsm : smallB ll = true
  rotate_left
  · rw [Bool.not_eq_true] at hsm
    go_wp2_with fail
    go_ret
    exact ⟨rfl, H_b1.out⟩
  by_cases hg2 : 1000 < b.length
  · go_wp2_with fail
    go_ret
    exact ⟨rfl, H_b1.out⟩
  have hlen := smallB_len hsm
  have hin := smallB_in hsm
  have hin2 : ∀ l ∈ ll, l.length ≤ 30 ∧ Fit l := fun l hl => ⟨hin l hl, H_fl.out l hl⟩
  have q2 := frames_any A c ll w1 H_l1.out hsm H_fl.out
  have hal := allB_len ll hin2
  have hab := allB_bytes ll hin2
  have hbh := frames_behind ll b fun l hl => ⟨by have := hin l hl; omega, H_fl.out l hl⟩
  obtain ⟨hfs, hfn⟩ := framesB_short H_fb.out (by omega)
  have hv : (framesB b).2 ≤ b.length := frB_le _ _
  unfold FrsPost at q2
  generalize hX : allB ll = X at *
  generalize hV : framesB b = V at *
  obtain ⟨V, v⟩ := V
  dsimp only at *
  have hll : ∀ k, (ll.getD k []).length ≤ 1000000 := getD_short fun l hl => by have := hin l hl; omega
  have H_q2 := Lib.hid q2; clear q2; have H_hab := Lib.hid hab; clear hab; have H_hbh := Lib.hid hbh; clear hbh; have H_hX := Lib.hid hX; clear hX; have H_hV := Lib.hid hV; clear hV; have H_hin := Lib.hid hin; clear hin; have H_hin2 := Lib.hid hin2; clear hin2; have H_hll := Lib.hid hll; clear hll; have H_hfs := Lib.hid hfs; clear hfs
  go_wp2_with fail
  refine H_q2.out.mono ?_
  rintro e w2 ⟨X2, x2, E, f, rfl, o2, e2, b2⟩
  have s2 := b2.size
  have l2 := H_l1.out.below b2
  have k2 := H_k1.out.below b2
  have bb2 := H_b1.out.trans (b2.mono s1)
  have oi2 := o2.ints
  have H_o2 := Lib.hid o2; clear o2; have H_e2 := Lib.hid e2; clear e2; have H_b2 := Lib.hid b2; clear b2; have H_l2 := Lib.hid l2; clear l2; have H_k2 := Lib.hid k2; clear k2; have H_bb2 := Lib.hid bb2; clear bb2; have H_oi2 := Lib.hid oi2; clear oi2
  go_wp2_with (at_builtin; refine wp_app_at _ rfl (.tmp 34) (.tmp 35) _ rfl w2.heap.size 5 i0 _ 1 Try.underlying23 hi hz0 hz1 hz2 rfl .u8 (some ⟨w2.heap.size, 0, none⟩) 0 0 [] rfl rfl (own_lit (w := w2) [] (Nat.le_refl _) (by simp) _ rfl) X2 x2 X.length X rfl rfl (H_oi2.out.alloc _) (by omega) (by omega) (by simp) ?_)
  intro X3 x3 w3 ho3 hg3 hB3
  change OwnInts w3 _ _ _ _ _ X at ho3
  have b3 : Below w2.heap.size w2 w3 := (own_lit (w := w2) (k := .u8) [] (Nat.le_refl _) (by simp) _ rfl).grow ((Below.refl _ _).alloc (Nat.le_refl _) _) hg3
  have s3 := b3.size
  have k3 := H_k2.out.below b3
  have H_ho3 := Lib.hid ho3; clear ho3; have H_hg3 := Lib.hid hg3; clear hg3; have H_hB3 := Lib.hid hB3; clear hB3; have H_b3 := Lib.hid b3; clear b3; have H_k3 := Lib.hid k3; clear k3
  go_wp2_with (at_builtin; refine wp_app_at _ rfl (.tmp 36) (.tmp 37) _ rfl w2.heap.size 5 i0 _ 1 Try.underlying23 hi hz0 hz1 hz2 rfl .u8 X3 x3 X.length X rfl rfl H_ho3.out B d b.length b rfl rfl H_k3.out (by omega) (by omega) (by omega) ?_)
  intro X4 x4 w4 ho4 hg4 hB4
  have b4 : Below w2.heap.size w2 w4 := H_ho3.out.grow H_b3.out hg4
  have s4 := b4.size
  have bb4 := H_bb2.out.trans (b4.mono (by omega))
  have l4 := H_l2.out.below b4
  have k4 := H_k2.out.below b4
  have hc4 := ho4.cap
  rw [List.length_append] at hc4
  have q4 := codFrames_at X4 x4 (X.length + b.length) (X ++ b) (by simp) w4 ho4.ints (by omega) hc4 (bytes_getD fun x hx => by
    rcases List.mem_append.1 hx with h | h
    · exact H_hab.out x h
    · exact H_fb.out x h)
  unfold FrPost at q4
  rw [H_hbh.out] at q4
  simp only [List.length_append] at q4
  have H_ho4 := Lib.hid ho4; clear ho4; have H_hg4 := Lib.hid hg4; clear hg4; have H_hB4 := Lib.hid hB4; clear hB4; have H_b4 := Lib.hid b4; clear b4; have H_bb4 := Lib.hid bb4; clear bb4; have H_l4 := Lib.hid l4; clear l4; have H_k4 := Lib.hid k4; clear k4; have H_q4 := Lib.hid q4; clear q4
  go_wp2_with fail
  refine H_q4.out.mono ?_
  rintro e w5 ⟨M, m, rfl, o5, b5⟩
  have s5 := b5.size
  have bb5 := H_bb4.out.trans (b5.mono (by omega))
  have l5 := H_l4.out.below b5
  have k5 := H_k4.out.below b5
  have hmc := o5.cap
  rw [List.length_append] at hmc
  have q5 := codFrames_any B d b w5 k5 (by omega) H_hbc.out (bytes_getD H_fb.out)
  unfold FrPost at q5
  rw [H_hV.out] at q5
  have H_b5 := Lib.hid b5; clear b5; have H_bb5 := Lib.hid bb5; clear bb5; have H_l5 := Lib.hid l5; clear l5; have H_k5 := Lib.hid k5; clear k5; have H_q5 := Lib.hid q5; clear q5; have H_o5 := Lib.hid o5; clear o5
  go_wp2_with fail
  refine H_q5.out.mono ?_
  rintro e w6 ⟨K, k, rfl, o6, b6⟩
  have s6 := b6.size
  have bb6 := H_bb5.out.trans (b6.mono (by omega))
  have l6 := H_l5.out.below b6
  have o56 := (H_o5.out.below b6).lists
  have i6 : (((ll.length + V.length : Nat) : Int) != (ll.length : Int) + (V.length : Int)) = false := by simp
  have i7 : (((X.length + v : Nat) : Int) != (X.length : Int) + (v : Int)) = false := by simp
  have hta : (ll ++ V).take ll.length = ll := List.take_left' rfl
  have hdr : (ll ++ V).drop ll.length = V := List.drop_left' rfl
  have tk := o56.take ll.length
  rw [hta] at tk
  have q6 := sameLists_any M A m c ll ll w6 tk l6 (by omega) (by omega) H_hll.out H_hll.out
  rw [sameL_refl] at q6
  have H_b6 := Lib.hid b6; clear b6; have H_bb6 := Lib.hid bb6; clear bb6; have H_l6 := Lib.hid l6; clear l6; have H_o6 := Lib.hid o6; clear o6; have H_o56 := Lib.hid o56; clear o56; have H_q6 := Lib.hid q6; clear q6; have H_hta := Lib.hid hta; clear hta; have H_hdr := Lib.hid hdr; clear hdr; have H_tk := Lib.hid tk; clear tk
  go_wp2_with fail
  refine H_q6.out.mono ?_
  rintro e w7 ⟨rfl, q, e7⟩
  have b7 : Below w6.heap.size w6 w7 := by rw [e7]; exact below_drewN (Below.refl _ _) _
  clear e7
  have bb7 := H_bb6.out.trans (b7.mono (by omega))
  have s7 := b7.size
  have o7 := H_o56.out.below b7
  have p7 := (H_o6.out.below b7).lists
  have d7 := o7.dropM ll.length
  rw [H_hdr.out] at d7
  have q7 := fun (C : Option Addr) (cc : Nat) (h : ListsAt w7 C V) => sameLists_any C K cc k V V w7 h p7 (by omega) (by omega) H_hfs.out H_hfs.out
  rw [sameL_refl] at q7
  by_cases hcm : m = ll.length
  · have hV0 : V = [] := List.eq_nil_of_length_eq_zero (by omega)
    have q8 := fun C cc => q7 C cc (by rw [hV0]; exact ListsAt.nil)
    have H_b7 := Lib.hid b7; clear b7; have H_bb7 := Lib.hid bb7; clear bb7; have H_o7 := Lib.hid o7; clear o7; have H_p7 := Lib.hid p7; clear p7; have H_d7 := Lib.hid d7; clear d7; have H_q7 := Lib.hid q7; clear q7; have H_hV0 := Lib.hid hV0; clear hV0; have H_q8 := Lib.hid q8; clear q8
    go_wp2_with fail
    all_goals
      refine (H_q8.out _ _).mono ?_
      rintro e w8 ⟨rfl, q, e8⟩
      have b8 : Below w7.heap.size w7 w8 := by rw [e8]; exact below_drewN (Below.refl _ _) _
      clear e8
      have bb8 := H_bb7.out.trans (b8.mono (by omega))
      have H_b8 := Lib.hid b8; clear b8; have H_bb8 := Lib.hid bb8; clear bb8
      go_wp2_with fail
      go_ret
      exact ⟨rfl, H_bb8.out⟩
  · have q8 := q7 _ (m - ll.length) d7
    have H_b7 := Lib.hid b7; clear b7; have H_bb7 := Lib.hid bb7; clear bb7; have H_o7 := Lib.hid o7; clear o7; have H_p7 := Lib.hid p7; clear p7; have H_d7 := Lib.hid d7; clear d7; have H_q7 := Lib.hid q7; clear q7; have H_q8 := Lib.hid q8; clear q8
    go_wp2_with fail
    all_goals
      refine (H_q8.out).mono ?_
      rintro e w8 ⟨rfl, q, e8⟩
      have b8 : Below w7.heap.size w7 w8 := by rw [e8]; exact below_drewN (Below.refl _ _) _
      clear e8
      have bb8 := H_bb7.out.trans (b8.mono (by omega))
      have H_b8 := Lib.hid b8; clear b8; have H_bb8 := Lib.hid bb8; clear bb8
      go_wp2_with fail
      go_ret
      exact ⟨rfl, H_bb8.out⟩
end Go.Proofs.Ytopdgjpoknndmaa
