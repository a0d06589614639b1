/- The law's own helpers: head, small, frames. -/
import Derived.Test.YtopdgjpoknndmaaCodM
import Derived.Test.YtopdgjpoknndmaaCodP
namespace Go.Proofs.Ytopdgjpoknndmaa
set_option linter.unusedSimpArgs false
set_option linter.unusedVariables false
set_option maxRecDepth 100000
open Go.RowKit

theorem hd_put : putB [0, -1, 64] = [6, 0, 1, 128, 1] := by decide +kernel
theorem hd_get : getB [2, 128, 0] = none := by decide +kernel
def hd5 : List Int := frameB [5]
theorem hd5_len : hd5.length = 13 := by decide +kernel
def hd7 : List Int := hd5 ++ [0, 0]
theorem hd7_len : hd7.length = 15 := by decide +kernel
theorem hd7_fr : framesB hd7 = ([[5]], 13) := by decide +kernel
theorem hd7_bytes : ∀ x ∈ hd7, 0 ≤ x ∧ x ≤ 255 := by decide +kernel
theorem hd5_take : hd5.take 5 = [0, 0, 2, 2, 10] := by decide +kernel

theorem lists_lit1 (w : World) (x : Int) (E F : TypeId) (n : Nat) (hn : w.heap.size + 1 = n) :
    ListsAt ((w.alloc (.cells #[.int .i64 x] E)).alloc (.cells #[.slice (some ⟨w.heap.size, 0, none⟩) 1 1] F)) (some ⟨n, 0, none⟩) [[x]] := fun i hi => by
  have h0 : i = 0 := by simpa using hi
  subst h0
  refine ⟨n, 0, some ⟨w.heap.size, 0, none⟩, 1, rfl, by simp; omega, ?_, by simp, (ints_new1 w .i64 x E _ rfl).alloc _⟩
  rw [cell_of_row _ _ _ _ _ _ (newAt (by simpa using hn))]
  rfl

set_option maxHeartbeats 2000000 in
theorem head_any (w : World) : Calls Try.prog 9 #[] w fun e w' => e = .returned (.bool true) ∧ Below w.heap.size w w' := by
  obtain ⟨i0, hi, hz0, hz1, hz2⟩ := info_parts infoU8
  go_enter Try.func9, Try.ntmps9
  go_wp2_with fail
  have h0 := codPut_any (some ⟨w.heap.size, 0, none⟩) 3 [0, -1, 64] _ (ints_lit (w := w) (E := 3) [0, -1, 64] _ rfl) (by simp) (by decide)
  rw [hd_put] at h0
  refine h0.mono ?_
  rintro e w1 ⟨A1, c1, rfl, ho1, hb1⟩
  have b1 : Below w.heap.size w w1 := ((Below.refl _ _).alloc (Nat.le_refl _) _).trans (hb1.mono (by simp))
  have o1 := ho1.ints
  have s1 := b1.size
  have H_h0 := Lib.hid h0; clear h0; have H_ho1 := Lib.hid ho1; clear ho1; have H_hb1 := Lib.hid hb1; clear hb1; have H_b1 := Lib.hid b1; clear b1; have H_o1 := Lib.hid o1; clear o1
  go_wp2_with fail
  have g1 := codGet_any (some ⟨w1.heap.size, 0, none⟩) 3 [2, 128, 0] _ (ints_lit (w := w1) (E := 5) [2, 128, 0] _ rfl) (by simp) (by simp) (bytes_getD (by decide))
  refine g1.mono ?_
  rintro e w2 (⟨_, rfl, hb2⟩ | ⟨l', hg, _⟩)
  rotate_left
  · rw [hd_get] at hg; cases hg
  have b2 : Below w1.heap.size w1 w2 := ((Below.refl _ _).alloc (Nat.le_refl _) _).trans (hb2.mono (by simp))
  have bb2 := H_b1.out.trans (b2.mono s1)
  have o2 := H_o1.out.below b2
  have s2 := b2.size
  have H_g1 := Lib.hid g1; clear g1; have H_hb2 := Lib.hid hb2; clear hb2; have H_b2 := Lib.hid b2; clear b2; have H_bb2 := Lib.hid bb2; clear bb2; have H_o2 := Lib.hid o2; clear o2
  go_wp2_with fail
  have h3 := codFrame_any (some ⟨w2.heap.size, 0, none⟩) 1 [5] _ (ints_lit (w := w2) (E := 3) [5] _ rfl) (by simp) (by decide)
  refine h3.mono ?_
  rintro e w3 ⟨A3, c3, rfl, ho3, hb3⟩
  have b3 : Below w2.heap.size w2 w3 := ((Below.refl _ _).alloc (Nat.le_refl _) _).trans (hb3.mono (by simp))
  have bb3 := H_bb2.out.trans (b3.mono (by omega))
  have o3 := H_o2.out.below b3
  have s3 := b3.size
  have o5 := ho3.ints
  have hcap3 := ho3.cap
  rw [show frameB [5] = hd5 from rfl] at *
  rw [hd5_len] at *
  have H_h3 := Lib.hid h3; clear h3; have H_hb3 := Lib.hid hb3; clear hb3; have H_b3 := Lib.hid b3; clear b3; have H_bb3 := Lib.hid bb3; clear bb3; have H_o3 := Lib.hid o3; clear o3; have H_ho3 := Lib.hid ho3; clear ho3; have H_o5 := Lib.hid o5; clear o5
  go_wp2_with (at_builtin; refine wp_app_at _ rfl (.tmp 27) (.tmp 28) _ rfl w3.heap.size 5 i0 _ 1 Try.underlying23 hi hz0 hz1 hz2 rfl .u8 (some ⟨w3.heap.size, 0, none⟩) 0 0 [] rfl rfl (own_lit (w := w3) [] (Nat.le_refl _) (by simp) _ rfl) A3 c3 13 hd5 hd5_len rfl (H_o5.out.alloc _) (by omega) (by omega) (by simp) ?_)
  intro A4 c4 w4 ho4 hg4 hB4
  have b4 : Below w3.heap.size w3 w4 := (own_lit (w := w3) (k := .u8) [] (Nat.le_refl _) (by simp) _ rfl).grow ((Below.refl _ _).alloc (Nat.le_refl _) _) hg4
  change OwnInts w4 _ _ _ _ _ hd5 at ho4
  have bb4 := H_bb3.out.trans (b4.mono (by omega))
  have o4 := H_o3.out.below b4
  have o45 := H_o5.out.below b4
  have s4 := b4.size
  have H_ho4 := Lib.hid ho4; clear ho4; have H_hg4 := Lib.hid hg4; clear hg4; have H_hB4 := Lib.hid hB4; clear hB4; have H_b4 := Lib.hid b4; clear b4; have H_bb4 := Lib.hid bb4; clear bb4; have H_o4 := Lib.hid o4; clear o4; have H_o45 := Lib.hid o45; clear o45
  go_wp2_with (at_builtin; refine wp_app_at _ rfl (.tmp 29) (.tmp 30) _ rfl w3.heap.size 5 i0 _ 1 Try.underlying23 hi hz0 hz1 hz2 rfl .u8 A4 c4 13 hd5 hd5_len rfl (H_ho4.out.alloc _) (some ⟨w4.heap.size, 0, none⟩) 2 2 [0, 0] rfl rfl (ints_lit (w := w4) (k := .u8) [0, 0] _ rfl) (by omega) (by omega) (by simp; omega) ?_)
  intro A5 c5 w5 ho5 hg5 hB5
  have b5 : Below w3.heap.size w3 w5 := (H_ho4.out.alloc _).grow (H_b4.out.alloc s4 _) hg5
  change OwnInts w5 _ _ _ _ _ hd7 at ho5
  have bb5 := H_bb3.out.trans (b5.mono (by omega))
  have p5 := H_o3.out.below b5
  have q5 := H_o5.out.below b5
  have s5 := b5.size
  have c5c := ho5.cap
  have f5 := codFrames_any A5 c5 hd7 w5 ho5.ints (by rw [hd7_len]; omega) c5c (bytes_getD hd7_bytes)
  unfold FrPost at f5
  rw [hd7_len, hd7_fr] at f5
  have H_ho5 := Lib.hid ho5; clear ho5; have H_hg5 := Lib.hid hg5; clear hg5; have H_hB5 := Lib.hid hB5; clear hB5; have H_b5 := Lib.hid b5; clear b5; have H_bb5 := Lib.hid bb5; clear bb5; have H_p5 := Lib.hid p5; clear p5; have H_q5 := Lib.hid q5; clear q5; have H_f5 := Lib.hid f5; clear f5; have H_c5c := Lib.hid c5c; clear c5c
  go_wp2_with fail
  refine H_f5.out.mono ?_
  rintro e w6 ⟨A6, c6, rfl, ho6, b6⟩
  have bb6 := H_bb5.out.trans (b6.mono (by omega))
  have p6 := H_p5.out.below b6
  have q6 := H_q5.out.below b6
  have s6 := b6.size
  have H_ho6 := Lib.hid ho6; clear ho6; have H_b6 := Lib.hid b6; clear b6; have H_bb6 := Lib.hid bb6; clear bb6; have H_p6 := Lib.hid p6; clear p6; have H_q6 := Lib.hid q6; clear q6
  go_wp2_with fail
  have h6 := sameBytes_any A1 (some ⟨w6.heap.size, 0, none⟩) c1 5 [6, 0, 1, 128, 1] [6, 0, 1, 128, 1] _ (H_p6.out.alloc _) (ints_lit (w := w6) (E := 5) (k := .u8) [6, 0, 1, 128, 1] _ rfl) (by decide) (by decide)
  rw [show sameB [6, 0, 1, 128, 1] [6, 0, 1, 128, 1] = true by decide] at h6
  refine h6.mono ?_
  rintro e w7 ⟨rfl, e7⟩
  have b7 : Below w6.heap.size w6 w7 := by rw [← e7]; exact (Below.refl _ _).alloc (Nat.le_refl _) _
  clear h6
  have bb7 := H_bb6.out.trans (b7.mono (by omega))
  have q7 := H_q6.out.below b7
  have o7 := H_ho6.out.below b7
  have s7 := b7.size
  have H_e7 := Lib.hid e7; clear e7; have H_b7 := Lib.hid b7; clear b7; have H_bb7 := Lib.hid bb7; clear bb7; have H_q7 := Lib.hid q7; clear q7; have H_o7 := Lib.hid o7; clear o7
  go_wp2_with fail
  have h7 := sameBytes_any A3 (some ⟨w7.heap.size, 0, none⟩) c3 5 (hd5.take 5) [0, 0, 2, 2, 10] _ ((H_q7.out.take 5).alloc _) (ints_lit (w := w7) (E := 5) (k := .u8) [0, 0, 2, 2, 10] _ rfl) (by rw [hd5_take]; decide) (by decide)
  rw [hd5_take, show sameB [0, 0, 2, 2, 10] [0, 0, 2, 2, 10] = true by decide] at h7
  refine h7.mono ?_
  rintro e w8 ⟨rfl, e8⟩
  have b8 : Below w7.heap.size w7 w8 := by rw [← e8]; exact (Below.refl _ _).alloc (Nat.le_refl _) _
  clear h7
  have bb8 := H_bb7.out.trans (b8.mono (by omega))
  have o8 := H_o7.out.below b8
  have s8 := b8.size
  have H_e8 := Lib.hid e8; clear e8; have H_b8 := Lib.hid b8; clear b8; have H_bb8 := Lib.hid bb8; clear bb8; have H_o8 := Lib.hid o8; clear o8
  go_wp2_with fail
  have h9 := sameLists_any A6 (some ⟨w8.heap.size + 1, 0, none⟩) c6 1 [[5]] [[5]] _ ((H_o8.out.alloc _).alloc _).lists (lists_lit1 w8 5 3 22 _ rfl) (by simp) (by simp) (fun k => by match k with | 0 => simp | k + 1 => simp) (fun k => by match k with | 0 => simp | k + 1 => simp)
  rw [show sameL [[5]] [[5]] = true by decide] at h9
  refine h9.mono ?_
  rintro e w9 ⟨rfl, q, e9⟩
  have b9 : Below w8.heap.size w8 w9 := by rw [e9]; exact below_drewN (((Below.refl _ _).alloc (Nat.le_refl _) _).alloc (by simp) _) _
  clear h9
  have bb9 := H_bb8.out.trans (b9.mono (by omega))
  have H_e9 := Lib.hid e9; clear e9; have H_b9 := Lib.hid b9; clear b9; have H_bb9 := Lib.hid bb9; clear bb9
  go_wp2_with fail
  go_ret
  exact ⟨rfl, H_bb9.out⟩

/-- few lists, and few integers in each -/
def smallB (ll : List (List Int)) : Bool := decide (ll.length ≤ 10) && ll.all fun l => decide (l.length ≤ 30)

theorem smallB_far {ll : List (List Int)} (k : Nat) (hk : k < ll.length) (h : 30 < (ll.getD k []).length) : smallB ll = false := by
  rw [Bool.eq_false_iff]; intro h2
  simp only [smallB, Bool.and_eq_true, List.all_eq_true, decide_eq_true_eq] at h2
  have h3 := h2.2 (ll.getD k []) (by simp [List.getD_eq_getElem?_getD, hk])
  omega
theorem smallB_all {ll : List (List Int)} (h : ∀ j, j < ll.length → (ll.getD j []).length ≤ 30) : smallB ll = decide (ll.length ≤ 10) := by
  have : (ll.all fun l => decide (l.length ≤ 30)) = true := by
    rw [List.all_eq_true]
    intro l hl
    obtain ⟨i, hi, e⟩ := List.mem_iff_getElem.1 hl
    have h2 := h i hi
    simp [List.getD_eq_getElem?_getD, hi, e] at h2
    simp; exact h2
  simp [smallB, this]
theorem smallB_many {ll : List (List Int)} (h : 10 < ll.length) : smallB ll = false := by simp [smallB]; omega
theorem smallB_len {ll : List (List Int)} (h : smallB ll = true) : ll.length ≤ 10 := by
  simp only [smallB, Bool.and_eq_true, decide_eq_true_eq] at h; exact h.1
theorem smallB_in {ll : List (List Int)} (h : smallB ll = true) : ∀ l ∈ ll, l.length ≤ 30 := fun l hl => by
  simp only [smallB, Bool.and_eq_true, List.all_eq_true, decide_eq_true_eq] at h; exact h.2 l hl

set_option maxHeartbeats 1000000 in
theorem small_any (A : Option Addr) (c : Nat) (ll : List (List Int)) (w : World) (hl : ListsAt w A ll) (hb : ∀ k, (ll.getD k []).length ≤ 9223372036854775807) (hn : ll.length ≤ 9223372036854775807) :
    Calls Try.prog 21 #[.slice A ll.length c] w fun e w' => e = .returned (.bool (smallB ll)) ∧ w = w' := by
  have hall := @smallB_all ll
  have hmany := @smallB_many ll
  have hfar := @smallB_far ll
  generalize hN : ll.length = N at *
  have H_hl := Lib.hid hl; clear hl; have H_hb := Lib.hid hb; clear hb; have H_hN := Lib.hid hN; clear hN; have H_hall := Lib.hid hall; clear hall; have H_hmany := Lib.hid hmany; clear hmany; have H_hfar := Lib.hid hfar; clear hfar
  go_enter Try.func21, Try.ntmps21
  go_wp2_with fail
  go_loopw [3] (fun i wr => ∃ k : Nat, k ≤ N ∧ k ≤ 20 ∧ i = .int .i64 k ∧ (∀ j, j < k → (ll.getD j []).length ≤ 30) ∧ wr = w) (fun i _ => N - (intOf i).toNat)
  case atStart => exact ⟨0, by omega, by omega, rfl, fun j hj => absurd hj (by omega), rfl⟩
  case round =>
    obtain ⟨k, hk, hk2, rfl, hrows, rfl⟩ := hrel
    by_cases hlt : k < N
    · by_cases h20 : k < 20
      · obtain ⟨b, off, Ai, ci, hA, hbs, hc, hcap, hia⟩ := H_hl.out k (by rw [H_hN.out]; exact hlt)
        have i1 : (0 : Int) ≤ (k : Int) := by omega
        have i2 : (k : Int) < (N : Int) := by omega
        have i3 : (k : Int) < 20 := by omega
        subst hA
        have hx := H_hb.out k
        have hf := H_hfar.out k hlt
        generalize hX : (ll.getD k []).length = X at *
        by_cases h30 : 30 < X
        · have hf2 := hf h30
          have i4 : (30 : Int) < (X : Int) := by omega
          have H_hrows := Lib.hid hrows; clear hrows; have H_hf := Lib.hid hf; clear hf; have H_hia := Lib.hid hia; clear hia; have H_hf2 := Lib.hid hf2; clear hf2; have H_hX := Lib.hid hX; clear hX; have H_hcap := Lib.hid hcap; clear hcap
          go_wp2_with fail
          go_ret
          exact ⟨ret_bool H_hf2.out.symm, rfl⟩
        · have i4 : ¬ (30 : Int) < (X : Int) := by omega
          have hnext : ∀ j, j < k + 1 → (ll.getD j []).length ≤ 30 := fun j hj => by
            rcases Nat.lt_or_ge j k with h | h
            · exact hrows j h
            · rw [show j = k by omega, hX]; omega
          have H_hrows := Lib.hid hrows; clear hrows; have H_hf := Lib.hid hf; clear hf; have H_hia := Lib.hid hia; clear hia; have H_hnext := Lib.hid hnext; clear hnext; have H_hX := Lib.hid hX; clear hX; have H_hcap := Lib.hid hcap; clear hcap
          go_wp2_with fail
          go_roundw
          case rel => exact ⟨k + 1, by omega, by omega, by go_num, H_hnext.out, trivial⟩
          case measure => simp [intOf]; omega
      · have hm := H_hmany.out (by omega)
        have i2 : (k : Int) < (N : Int) := by omega
        have i3 : ¬ (k : Int) < 20 := by omega
        have i5 : decide (N ≤ 10) = false := by simp; omega
        have H_hrows := Lib.hid hrows; clear hrows; have H_hm := Lib.hid hm; clear hm
        go_wp2_with fail
        go_ret
        exact ⟨ret_bool (by rw [H_hm.out]; simp; omega), rfl⟩
    · have hm := H_hall.out fun j hj => hrows j (by omega)
      have i2 : ¬ (k : Int) < (N : Int) := by omega
      have H_hrows := Lib.hid hrows; clear hrows; have H_hm := Lib.hid hm; clear hm
      go_wp2_with fail
      go_ret
      exact ⟨ret_bool (by rw [H_hm.out]; simp; omega), rfl⟩

/-- where each frame ends -/
def endsB (ll : List (List Int)) : List Int := (List.range ll.length).map fun i => ((allB (ll.take (i + 1))).length : Int)
def endsTo (ll : List (List Int)) (k : Nat) : List Int := (List.range k).map fun i => ((allB (ll.take (i + 1))).length : Int)
theorem endsTo_len (ll : List (List Int)) (k : Nat) : (endsTo ll k).length = k := by simp [endsTo]
theorem endsTo_succ (ll : List (List Int)) (k : Nat) : endsTo ll (k + 1) = endsTo ll k ++ [((allB (ll.take (k + 1))).length : Int)] := by simp [endsTo, List.range_succ]
theorem allB_succ {ll : List (List Int)} {k : Nat} (hk : k < ll.length) : allB (ll.take (k + 1)) = allB (ll.take k) ++ frameB (ll.getD k []) := by
  rw [List.take_add_one, allB, List.flatMap_append]
  simp [allB, List.getD_eq_getElem?_getD, hk]
theorem infoI8 : (Try.prog.info? 3).map (fun i => (i.zero, i.size, i.bytes)) = some (some (.int .i64 0), 1, 8) := by kernel_rfl
theorem frame_short {l : List Int} (hn : l.length ≤ 30) (h : Fit l) : 12 ≤ (frameB l).length ∧ (frameB l).length ≤ 400 := by
  have h1 := bodyB_len l h
  have h2 := vb_len (zz l.length) (zz_lt _ (by omega) (by omega))
  have h3 : 1 ≤ (vb (zz l.length)).length := by unfold vb; split <;> simp
  have h4 : (putB l).length = (vb (zz l.length)).length + (bodyB l).length := by simp [putB]
  rw [frameB_len]; omega
def FrsPost (ll : List (List Int)) (w : World) (e : Ending) (w' : World) : Prop :=
  ∃ B d E f, e = .returned (.tuple #[.slice B (allB ll).length d, .slice E ll.length f, .bool true]) ∧ OwnInts w' w.heap.size 5 .u8 B d (allB ll) ∧ OwnInts w' w.heap.size 3 .i64 E f (endsB ll) ∧ Below w.heap.size w w'

structure FrsInv (ll : List (List Int)) (w : World) (k : Nat) (B : Option Addr) (d : Nat) (E : Option Addr) (f : Nat) (wr : World) : Prop where
  out : OwnInts wr w.heap.size 5 .u8 B d (allB (ll.take k))
  ends : OwnInts wr w.heap.size 3 .i64 E f (endsTo ll k)
  below : Below w.heap.size w wr
  le : (allB (ll.take k)).length ≤ 400 * k

set_option maxHeartbeats 2000000 in
theorem frames_any (A : Option Addr) (c : Nat) (ll : List (List Int)) (w : World) (hl : ListsAt w A ll) (hs : smallB ll = true) (hf : ∀ l ∈ ll, Fit l) :
    Calls Try.prog 22 #[.slice A ll.length c] w (FrsPost ll w) := by
  obtain ⟨i0, hi, hz0, hz1, hz2⟩ := info_parts infoU8
  obtain ⟨j0, hj, hy0, hy1, hy2⟩ := info_parts infoI8
  have hn := smallB_len hs
  have hrow := smallB_in hs
  generalize hN : ll.length = N at *
  have H_hl := Lib.hid hl; clear hl; have H_hs := Lib.hid hs; clear hs; have H_hf := Lib.hid hf; clear hf; have H_hN := Lib.hid hN; clear hN; have H_hrow := Lib.hid hrow; clear hrow
  go_enter Try.func22, Try.ntmps22
  go_wp2_with fail
  go_loopw [5, 6, 7] (fun out ends i wr => ∃ (k : Nat) (B : Option Addr) (d : Nat) (E : Option Addr) (f : Nat), k ≤ N ∧ out = .slice B (allB (ll.take k)).length d ∧ ends = .slice E k f ∧ i = .int .i64 k ∧ FrsInv ll w k B d E f wr) (fun _ _ i _ => N - (intOf i).toNat)
  case atStart => exact ⟨0, none, 0, none, 0, by omega, by simp [allB], rfl, rfl, by simpa [allB] using OwnInts.nil _ _ _ _, OwnInts.nil _ _ _ _, Below.refl _ _, by simp [allB]⟩
  case round =>
    obtain ⟨k, B, d, E, f, hk, rfl, rfl, rfl, inv⟩ := hrel
    have hsz := inv.below.size
    by_cases hlt : k < N
    · obtain ⟨b, off, Ai, ci, hA, hbs, hc, hcap, hia⟩ := H_hl.out k (by rw [H_hN.out]; exact hlt)
      have i1 : (0 : Int) ≤ (k : Int) := by omega
      have i2 : (k : Int) < (N : Int) := by omega
      subst hA
      have hmem : ll.getD k [] ∈ ll := by
        have h : k < ll.length := by rw [H_hN.out]; exact hlt
        simp [List.getD_eq_getElem?_getD, h]
      have hr := H_hrow.out _ hmem
      have hft := H_hf.out _ hmem
      have hsucc := allB_succ (ll := ll) (k := k) (by rw [H_hN.out]; exact hlt)
      have hes := endsTo_succ ll k
      have hsh := frame_short hr hft
      have hc2 := (inv.below.cell (p := ⟨b, off + k, none⟩) hbs).trans hc
      have hfr := codFrame_any Ai ci (ll.getD k []) wr (hia.below inv.below) (by omega) hft
      unfold OwnErr at hfr
      have hle := inv.le
      have ho := inv.out
      have he := inv.ends
      have hbl := inv.below
      have hel := endsTo_len ll k
      generalize hY : allB (ll.take (k + 1)) = Y at *
      generalize hX : allB (ll.take k) = X at *
      generalize hZ : endsTo ll k = Z at *
      generalize ll.getD k [] = x at *
      generalize frameB x = F at *
      generalize hFL : F.length = FL at *
      have i3 : ¬ (FL : Int) < 12 := by omega
      have i4 : decide ((FL : Int) < 12) = false := by simp; omega
      have H_hia := Lib.hid hia; clear hia; have H_hc := Lib.hid hc; clear hc; have H_hmem := Lib.hid hmem; clear hmem; have H_hr := Lib.hid hr; clear hr; have H_hft := Lib.hid hft; clear hft; have H_hsucc := Lib.hid hsucc; clear hsucc; have H_hes := Lib.hid hes; clear hes; have H_hfr := Lib.hid hfr; clear hfr; have H_inv := Lib.hid inv; clear inv; have H_ho := Lib.hid ho; clear ho; have H_he := Lib.hid he; clear he; have H_hbl := Lib.hid hbl; clear hbl; have H_hcap := Lib.hid hcap; clear hcap; have H_hX := Lib.hid hX; clear hX; have H_hY := Lib.hid hY; clear hY; have H_hFL := Lib.hid hFL; clear hFL; have H_hZ := Lib.hid hZ; clear hZ; have H_hel := Lib.hid hel; clear hel
      go_wp2_with fail
      refine H_hfr.out.mono ?_
      rintro e w1 ⟨G, g, rfl, hg1, hb1⟩
      have hs1 := hb1.size
      have ho1 := H_ho.out.below hb1
      have he1 := H_he.out.below hb1
      have hbl1 := H_hbl.out.trans (hb1.mono hsz)
      have hgi := hg1.ints
      have H_hg1 := Lib.hid hg1; clear hg1; have H_hb1 := Lib.hid hb1; clear hb1; have H_ho1 := Lib.hid ho1; clear ho1; have H_he1 := Lib.hid he1; clear he1; have H_hbl1 := Lib.hid hbl1; clear hbl1; have H_hgi := Lib.hid hgi; clear hgi
      go_wp2_with (at_builtin; refine wp_app_at _ rfl (.tmp 31) (.tmp 32) _ rfl w.heap.size 5 i0 _ 1 Try.underlying23 hi hz0 hz1 hz2 rfl .u8 B d X.length X rfl rfl H_ho1.out G g FL F H_hFL.out rfl H_hgi.out (by omega) (by omega) (by omega) ?_)
      intro B2 d2 w2 ho2 hg2 hB2
      have hbl2 : Below w.heap.size w w2 := H_ho1.out.grow H_hbl1.out hg2
      rw [← H_hsucc.out] at ho2
      have he2 : OwnInts w2 w.heap.size 3 .i64 E f Z := H_he1.out.kept hg2 (by
        have := own_ne H_ho1.out H_he1.out (by decide)
        rw [ownBlock_slice, ownBlock_slice] at this
        exact this)
      have hs2 := hbl2.size
      have hYL : Y.length = X.length + FL := by rw [H_hsucc.out]; simp [H_hFL.out]
      have H_ho2 := Lib.hid ho2; clear ho2; have H_hg2 := Lib.hid hg2; clear hg2; have H_hB2 := Lib.hid hB2; clear hB2; have H_hbl2 := Lib.hid hbl2; clear hbl2; have H_he2 := Lib.hid he2; clear he2; have H_hYL := Lib.hid hYL; clear hYL
      go_wp2_with (at_builtin; refine wp_app_at _ rfl (.tmp 34) (.tmp 37) _ rfl w.heap.size 3 j0 _ 8 Try.underlying22 hj hy0 hy1 hy2 rfl .i64 E f k Z H_hel.out rfl (H_he2.out.alloc _) (some ⟨w2.heap.size, 0, none⟩) 1 1 [((X.length + FL : Nat) : Int)] rfl rfl (ints_new1 w2 .i64 _ _ _ rfl) (by omega) (by omega) (by simp; omega) ?_)
      intro E3 f3 w3 he3 hg3 hB3
      have hbl3 : Below w.heap.size w w3 := (H_he2.out.alloc _).grow (H_hbl2.out.alloc hs2 _) hg3
      have ho3 : OwnInts w3 w.heap.size 5 .u8 B2 d2 Y := (H_ho2.out.alloc _).kept hg3 (by
        have := own_ne H_he2.out H_ho2.out (by decide)
        rw [ownBlock_slice, ownBlock_slice] at this
        exact this)
      have inv3 : FrsInv ll w (k + 1) B2 d2 E3 f3 w3 := ⟨by rw [H_hY.out]; exact ho3, by rw [H_hes.out, H_hYL.out]; exact he3, hbl3, by rw [H_hY.out, H_hYL.out]; omega⟩
      have H_he3 := Lib.hid he3; clear he3; have H_hg3 := Lib.hid hg3; clear hg3; have H_hB3 := Lib.hid hB3; clear hB3; have H_hbl3 := Lib.hid hbl3; clear hbl3; have H_ho3 := Lib.hid ho3; clear ho3; have H_inv3 := Lib.hid inv3; clear inv3
      go_wp2_with fail
      go_roundw
      case rel => exact ⟨k + 1, B2, d2, E3, f3, by omega, by rw [H_hY.out, H_hYL.out], rfl, by go_num, H_inv3.out⟩
      case measure => simp [intOf]; omega
    · have i2 : ¬ (k : Int) < (N : Int) := by omega
      have hkN : k = N := by omega
      have hta : ll.take k = ll := List.take_of_length_le (by rw [H_hN.out]; omega)
      have ho := inv.out
      have he := inv.ends
      have hbl := inv.below
      have hee : endsTo ll k = endsB ll := by rw [endsB, endsTo, H_hN.out, hkN]
      rw [hta] at ho
      rw [hee] at he
      have fin : FrsPost ll w (.returned (.tuple #[.slice B (allB (ll.take k)).length d, .slice E k f, .bool true])) wr := ⟨B, d, E, f, by rw [hta, hkN, H_hN.out], ho, he, hbl⟩
      have H_hta := Lib.hid hta; clear hta; have H_ho := Lib.hid ho; clear ho; have H_he := Lib.hid he; clear he; have H_hbl := Lib.hid hbl; clear hbl; have H_inv := Lib.hid inv; clear inv; have H_hee := Lib.hid hee; clear hee; have H_hkN := Lib.hid hkN; clear hkN; have H_fin := Lib.hid fin; clear fin
      go_wp2_with fail
      go_ret3
      exact H_fin.out
end Go.Proofs.Ytopdgjpoknndmaa
