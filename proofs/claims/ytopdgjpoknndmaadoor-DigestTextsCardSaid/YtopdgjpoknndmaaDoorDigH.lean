/- The statements about digests: head. -/
import Derived.Test.YtopdgjpoknndmaaDoorDigS
import Derived.Lib.SlBytesConst
namespace Go.Proofs.YtopdgjpoknndmaaDoor
set_option linter.unusedSimpArgs false
set_option linter.unusedVariables false
set_option maxRecDepth 100000
open Go.RowKit

theorem digSum_val (A : Option Addr) (c n : Nat) (l : List Int) (hln : l.length = n) (v : Int) (hv : sumB 14695981039346656037 l = v) (w : World) (hl : IntsAt w A .u8 l) (hn : n ≤ 100000000) (hb : ∀ x ∈ l, 0 ≤ x ∧ x ≤ 255) :
    Calls Tryd.prog 11 #[.slice A n c] w fun e w' => e = .returned (.int .u64 v) ∧ Below w.heap.size w w' := by
  subst hln hv; exact digSum_any A c l w hl (by omega) (bytes_getD hb)
theorem refSum_val (A : Option Addr) (c n : Nat) (l : List Int) (hln : l.length = n) (v : Int) (hv : sumB 14695981039346656037 l = v) (w : World) (hl : IntsAt w A .u8 l) (hn : n ≤ 100000000) (hb : ∀ x ∈ l, 0 ≤ x ∧ x ≤ 255) :
    Calls Tryd.prog 12 #[.slice A n c] w fun e w' => e = .returned (.int .u64 v) ∧ w = w' := by
  subst hln hv; exact refSum_any A c l w hl (by omega) (bytes_getD hb)
theorem digNext_val (d : Int) (A : Option Addr) (c n : Nat) (l : List Int) (hln : l.length = n) (v : Int) (hv : nextB d l = v) (w : World) (hd : 0 ≤ d ∧ d ≤ 18446744073709551615) (hl : IntsAt w A .i64 l) (hn : n ≤ 1000000) (hb : Fit l) (ht : Tab w) :
    Calls Tryd.prog 13 #[.int .u64 d, .slice A n c] w fun e w' => e = .returned (.int .u64 v) ∧ Below w.heap.size w w' := by
  subst hln hv; exact digNext_any d A c l w hd hl hn hb ht
theorem refNext_val (d : Int) (A : Option Addr) (c n : Nat) (l : List Int) (hln : l.length = n) (v : Int) (hv : nextB d l = v) (w : World) (hd : 0 ≤ d ∧ d ≤ 18446744073709551615) (hl : IntsAt w A .i64 l) (hn : n ≤ 1000000) (hb : Fit l) :
    Calls Tryd.prog 14 #[.int .u64 d, .slice A n c] w fun e w' => e = .returned (.int .u64 v) ∧ Below w.heap.size w w' := by
  subst hln hv; exact refNext_any d A c l w hd hl hn hb
theorem digChain_val (A : Option Addr) (c n : Nat) (ll : List (List Int)) (hln : ll.length = n) (v : Int) (hv : chainB ll = v) (w : World) (hl : ListsAt w A ll) (hn : n ≤ 1000000) (hb : Fits ll) (ht : Tab w) :
    Calls Tryd.prog 15 #[.slice A n c] w fun e w' => e = .returned (.int .u64 v) ∧ Below w.heap.size w w' := by
  subst hln hv; exact digChain_any A c ll w hl hn hb ht
theorem refChain_val (A : Option Addr) (c n : Nat) (ll : List (List Int)) (hln : ll.length = n) (v : Int) (hv : chainB ll = v) (w : World) (hl : ListsAt w A ll) (hn : n ≤ 1000000) (hb : Fits ll) :
    Calls Tryd.prog 16 #[.slice A n c] w fun e w' => e = .returned (.int .u64 v) ∧ Below w.heap.size w w' := by
  subst hln hv; exact refChain_any A c ll w hl hn hb

theorem sum_nil : sumB 14695981039346656037 [] = 14695981039346656037 := by simp only [sumB, List.foldl_nil]
theorem sum_a : sumB 14695981039346656037 [97] = 12638187200555641996 := by decide +kernel
theorem sum_foobar : sumB 14695981039346656037 [102, 111, 111, 98, 97, 114] = 9625390261332436968 := by decide +kernel
theorem dec5 : decB 5 = [53] := by rw [decB, Lib.itoa, if_neg (by omega), Lib.decDigits]; rfl
theorem dec_1 : decB (-1) = [45, 49] := by rw [decB, Lib.itoa, if_pos (by omega), show (-1 : Int).natAbs = 1 from rfl, Lib.decDigits]; rfl
theorem next_97 : nextB 97 [5, -1] = sumB 14695981039346656037 [0, 0, 0, 0, 0, 0, 0, 97, 53, 32, 45, 49, 32] := by
  have e : textB 97 [5, -1] = [0, 0, 0, 0, 0, 0, 0, 97, 53, 32, 45, 49, 32] := by
    rw [textB, wordsB, List.flatMap_cons, List.flatMap_cons, dec5, dec_1]; decide +kernel
  rw [nextB, e]
theorem chain_7 : chainB [[7], []] = nextB (nextB 14695981039346656037 [1, 7]) [0] := by
  simp only [chainB, List.foldl_cons, List.foldl_nil, List.length_cons, List.length_nil, Nat.zero_add, Int.natCast_one, Int.natCast_zero]
theorem chain_nil : chainB [] = 14695981039346656037 := by simp only [chainB, List.foldl_nil]
theorem IntsAt.later {w w' : World} {A : Option Addr} {k : IntKind} {l : List Int} (h : IntsAt w A k l) (hb : Below w.heap.size w w') : IntsAt w' A k l := h.below hb
theorem fit_small {l : List Int} (h : ∀ x ∈ l, -1000 ≤ x ∧ x ≤ 1000) : Fit l := fun x hx => by have := h x hx; omega
/-- a literal list of two lists, the second one nil -/
theorem lists_two {w : World} (l : List Int) (g n : Nat) (hn : w.heap.size = n) (hg : g < n) (hl : IntsAt w (some ⟨g, 0, none⟩) .i64 l) : ListsAt (w.alloc (.cells #[.slice (some ⟨g, 0, none⟩) l.length l.length, .slice none 0 0] 24)) (some ⟨n, 0, none⟩) [l, []] := fun i hi => by
  subst hn
  have hi2 : i < 2 := by simpa using hi
  have hc := fun j => cell_of_row (w.alloc (.cells #[.slice (some ⟨g, 0, none⟩) l.length l.length, .slice none 0 0] 24)) w.heap.size j _ _ _ (heap_alloc_new w _)
  rcases (by omega : i = 0 ∨ i = 1) with rfl | rfl
  · exact ⟨w.heap.size, 0, some ⟨g, 0, none⟩, l.length, rfl, by simp, by rw [hc]; rfl, Nat.le_refl _, hl.alloc _⟩
  · exact ⟨w.heap.size, 0, none, 0, rfl, by simp, by rw [hc]; rfl, Nat.le_refl _, IntsAt.nil⟩

theorem ints_litf {w : World} {E : TypeId} {k : IntKind} (l : List Int) (n : Nat) (hn : w.heap.size = n) (fr : Nat × Nat) : IntsAt (w.alloc (.cells (l.map (Value.int k)).toArray E fr)) (some ⟨n, 0, none⟩) k l := fun i hi => by
  subst hn
  refine ⟨w.heap.size, 0, rfl, by simp, ?_⟩
  rw [cell_of_row _ _ _ _ _ _ (heap_alloc_new w _)]
  simp [List.getD_eq_getElem?_getD, hi]

set_option maxHeartbeats 4000000 in
theorem head_any (w : World) (ht : Tab w) : Calls Tryd.prog 9 #[] w fun e w' => e = .returned (.bool true) ∧ Below w.heap.size w w' := by
  have q1 := digSum_val none 0 0 [] rfl _ sum_nil w IntsAt.nil (by omega) (by simp)
  have kc := fun (w : World) (C : Array Value) (n c : Nat) => Lib.run_convert_bytes_const (P := Tryd.prog) w 22 5 C n c Tryd.underlying22 Tryd.underlying5
  have H_ht := Lib.hid ht; clear ht; have H_q1 := Lib.hid q1; clear q1
  go_enter Tryd.func9, Tryd.ntmps9
  go_wp2_with fail
  refine H_q1.out.mono ?_
  rintro e w1 ⟨rfl, b1⟩
  have s1 := b1.size
  have q2 := digSum_val (some ⟨w1.heap.size, 0, none⟩) 1 1 [97] rfl _ sum_a _ (ints_litf (w := w1) (E := 5) [97] _ rfl (1, 2)) (by omega) (by simp)
  have H_b1 := Lib.hid b1; clear b1; have H_q2 := Lib.hid q2; clear q2
  go_wp2_with fail
  refine H_q2.out.mono ?_
  rintro e w2 ⟨rfl, b2⟩
  have s2 := b2.size
  simp only [World.size_alloc] at s2
  have bb2 : Below w.heap.size w w2 := (H_b1.out.alloc s1 _).trans (b2.mono (by simp; omega))
  have q3 := digSum_val (some ⟨w2.heap.size, 0, none⟩) 6 6 [102, 111, 111, 98, 97, 114] rfl _ sum_foobar _ (ints_litf (w := w2) (E := 5) [102, 111, 111, 98, 97, 114] _ rfl (6, 7)) (by omega) (by simp)
  have H_b2 := Lib.hid b2; clear b2; have H_bb2 := Lib.hid bb2; clear bb2; have H_q3 := Lib.hid q3; clear q3
  go_wp2_with fail
  refine H_q3.out.mono ?_
  rintro e w3 ⟨rfl, b3⟩
  have s3 := b3.size
  simp only [World.size_alloc] at s3
  have bb3 : Below w.heap.size w w3 := (H_bb2.out.alloc (by omega) _).trans (b3.mono (by simp; omega))
  have q4 := digNext_val 97 (some ⟨w3.heap.size, 0, none⟩) 2 2 [5, -1] rfl _ rfl _ (by omega) (ints_lit (w := w3) (E := 3) [5, -1] _ rfl) (by omega) (fit_small (by simp)) (H_ht.out.below (bb3.alloc (by omega) _))
  rw [next_97] at q4
  generalize hG : sumB 14695981039346656037 [0, 0, 0, 0, 0, 0, 0, 97, 53, 32, 45, 49, 32] = G at *
  have H_b3 := Lib.hid b3; clear b3; have H_bb3 := Lib.hid bb3; clear bb3; have H_q4 := Lib.hid q4; clear q4; have H_hG := Lib.hid hG; clear hG
  go_wp2_with fail
  refine H_q4.out.mono ?_
  rintro e w4 ⟨rfl, b4⟩
  have s4 := b4.size
  simp only [World.size_alloc] at s4
  have bb4 : Below w.heap.size w w4 := (H_bb3.out.alloc (by omega) _).trans (b4.mono (by simp; omega))
  have q5 := digSum_val (some ⟨w4.heap.size, 0, none⟩) 13 13 [0, 0, 0, 0, 0, 0, 0, 97, 53, 32, 45, 49, 32] rfl G H_hG.out _ (ints_lit (w := w4) (E := 5) [0, 0, 0, 0, 0, 0, 0, 97, 53, 32, 45, 49, 32] _ rfl) (by omega) (by simp)
  have H_b4 := Lib.hid b4; clear b4; have H_bb4 := Lib.hid bb4; clear bb4; have H_q5 := Lib.hid q5; clear q5
  go_wp2_with fail
  refine H_q5.out.mono ?_
  rintro e w5 ⟨rfl, b5⟩
  have s5 := b5.size
  simp only [World.size_alloc] at s5
  have bb5 : Below w.heap.size w w5 := (H_bb4.out.alloc (by omega) _).trans (b5.mono (by simp; omega))
  have i6 := ints_lit (w := w5) (E := 3) (k := .i64) [7] _ rfl
  have bb5' : Below w.heap.size w (w5.alloc (.cells #[.int .i64 7] 3)) := bb5.alloc (by omega) _
  have l6 := lists_two [7] w5.heap.size (w5.heap.size + 1) (by simp) (by omega) i6
  have q6 := digChain_val (some ⟨w5.heap.size + 1, 0, none⟩) 2 2 [[7], []] rfl _ chain_7 _ l6 (by omega) (fun l hl => by
    rcases List.mem_cons.1 hl with rfl | h
    · exact ⟨by simp, fit_small (by simp)⟩
    · have : l = [] := by simpa using h
      subst this; exact ⟨by simp, fit_small (by simp)⟩) (H_ht.out.below (bb5'.alloc (by simp; omega) _))
  have hG1 := nextB_in 14695981039346656037 [1, 7]
  generalize hG2 : nextB 14695981039346656037 [1, 7] = G1 at *
  generalize hG3 : nextB G1 [0] = G3 at *
  have hgg : (G == G) = true := by simp
  have hg3 : (G3 == G3) = true := by simp
  have H_b5 := Lib.hid b5; clear b5; have H_bb5 := Lib.hid bb5; clear bb5; have H_bb5' := Lib.hid bb5'; clear bb5'; have H_i6 := Lib.hid i6; clear i6; have H_l6 := Lib.hid l6; clear l6; have H_q6 := Lib.hid q6; clear q6; have H_hG1 := Lib.hid hG1; clear hG1; have H_hG2 := Lib.hid hG2; clear hG2; have H_hG3 := Lib.hid hG3; clear hG3
  go_wp2_with fail
  refine H_q6.out.mono ?_
  rintro e w6 ⟨rfl, b6⟩
  have s6 := b6.size
  simp only [World.size_alloc] at s6
  have bb6 : Below w.heap.size w w6 := (H_bb5'.out.alloc (by simp; omega) _).trans (b6.mono (by simp; omega))
  have q7 := digNext_val 14695981039346656037 (some ⟨w6.heap.size, 0, none⟩) 2 2 [1, 7] rfl G1 H_hG2.out _ (by omega) (ints_lit (w := w6) (E := 3) [1, 7] _ rfl) (by omega) (fit_small (by simp)) (H_ht.out.below (bb6.alloc (by omega) _))
  have H_b6 := Lib.hid b6; clear b6; have H_bb6 := Lib.hid bb6; clear bb6; have H_q7 := Lib.hid q7; clear q7
  go_wp2_with fail
  refine H_q7.out.mono ?_
  rintro e w7 ⟨rfl, b7⟩
  have s7 := b7.size
  simp only [World.size_alloc] at s7
  have bb7 : Below w.heap.size w w7 := (H_bb6.out.alloc (by omega) _).trans (b7.mono (by simp; omega))
  have q8 := digNext_val G1 (some ⟨w7.heap.size, 0, none⟩) 1 1 [0] rfl G3 H_hG3.out _ H_hG1.out (ints_lit (w := w7) (E := 3) [0] _ rfl) (by omega) (fit_small (by simp)) (H_ht.out.below (bb7.alloc (by omega) _))
  have H_b7 := Lib.hid b7; clear b7; have H_bb7 := Lib.hid bb7; clear bb7; have H_q8 := Lib.hid q8; clear q8
  go_wp2_with fail
  refine H_q8.out.mono ?_
  rintro e w8 ⟨rfl, b8⟩
  have s8 := b8.size
  simp only [World.size_alloc] at s8
  have bb8 : Below w.heap.size w w8 := (H_bb7.out.alloc (by omega) _).trans (b8.mono (by simp; omega))
  have q9 := digChain_val none 0 0 [] rfl _ chain_nil w8 ListsAt.nil (by omega) (fun l hl => by cases hl) (H_ht.out.below bb8)
  have H_b8 := Lib.hid b8; clear b8; have H_bb8 := Lib.hid bb8; clear bb8; have H_q9 := Lib.hid q9; clear q9
  go_wp2_with fail
  refine H_q9.out.mono ?_
  rintro e w9 ⟨rfl, b9⟩
  have s9 := b9.size
  have bb9 : Below w.heap.size w w9 := H_bb8.out.trans (b9.mono (by omega))
  have q10 := digSum_val none 0 0 [] rfl _ sum_nil w9 IntsAt.nil (by omega) (by simp)
  have H_b9 := Lib.hid b9; clear b9; have H_bb9 := Lib.hid bb9; clear bb9; have H_q10 := Lib.hid q10; clear q10
  go_wp2_with fail
  refine H_q10.out.mono ?_
  rintro e w10 ⟨rfl, b10⟩
  have bb10 : Below w.heap.size w w10 := H_bb9.out.trans (b10.mono (by omega))
  have H_b10 := Lib.hid b10; clear b10; have H_bb10 := Lib.hid bb10; clear bb10
  go_wp2_with fail
  go_ret
  exact ⟨rfl, H_bb10.out⟩
end Go.Proofs.YtopdgjpoknndmaaDoor
