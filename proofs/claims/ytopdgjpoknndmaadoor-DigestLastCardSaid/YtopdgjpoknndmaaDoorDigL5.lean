/- The walks of DigestTexts and DigestLast. -/
import Derived.Test.YtopdgjpoknndmaaDoorDigL4
namespace Go.Proofs.YtopdgjpoknndmaaDoor
set_option linter.unusedSimpArgs false
set_option linter.unusedVariables false
set_option maxRecDepth 100000
open Go.RowKit

set_option maxHeartbeats 4000000 in
theorem digestTexts_walk (d : Int) (A : Option Addr) (c : Nat) (l : List Int) (which by_ : Int) (w : World) (hdw : (Lit.int .u64 d).wf = true)
    (hl : IntsAt w A .i64 l) (hlc : l.length ≤ c) (hcm : c ≤ maxLen) (hlw : ∀ n ∈ l, (Lit.int .i64 n).wf = true) (hat_ : (Lit.int .u16 which).wf = true) (hby_ : (Lit.int .u8 by_).wf = true) (ht : Tab w) :
    Calls Tryd.prog 6 #[.int .u64 d, .slice A l.length c, .int .u16 which, .int .u8 by_] w fun e w' => e = .returned (.bool true) ∧ Below w.heap.size w w' := by
  have hd := wf_u64 hdw
  have ha := wf_u16 hat_
  have hb := wf_u8 hby_
  have hf := fit_of hlw
  unfold maxLen at hcm
  have q1 := head_any w ht
  have bb0 := Below.refl w.heap.size w
  have l0 := hl
  have t0 := ht
  have H_hl := Lib.hid hl; clear hl; have H_hlw := Lib.hid hlw; clear hlw; have H_hat_ := Lib.hid hat_; clear hat_; have H_hby_ := Lib.hid hby_; clear hby_; have H_ht := Lib.hid ht; clear ht; have H_q1 := Lib.hid q1; clear q1; have H_ha := Lib.hid ha; clear ha; have H_hb := Lib.hid hb; clear hb; have H_hd := Lib.hid hd; clear hd; have H_hdw := Lib.hid hdw; clear hdw; have H_hf := Lib.hid hf; clear hf; have H_bb0 := Lib.hid bb0; clear bb0; have H_l0 := Lib.hid l0; clear l0; have H_t0 := Lib.hid t0; clear t0
  go_enter Tryd.func6, Tryd.ntmps6
  go_wp2_with fail
  refine H_q1.out.mono ?_
  rintro e w1 ⟨rfl, b1⟩
  have s1 := b1.size
  (try simp only [World.size_alloc, World.heap_drewN, World.size_setCell, heap_drew] at s1)
  have bb1 := H_bb0.out.trans (b1.mono (by first | omega | (simp; omega)))
  have l1 := H_l0.out.below b1
  have t1 := H_t0.out.below b1
  have H_b1 := Lib.hid b1; clear b1; have H_bb1 := Lib.hid bb1; clear bb1; have H_l1 := Lib.hid l1; clear l1; have H_t1 := Lib.hid t1; clear t1
  by_cases g1 : (40 : Int) < (l.length : Int)
  · go_wp2_with fail
    go_ret
    exact ⟨rfl, H_bb1.out⟩
  generalize hN : nextB d l = N at *
  have q2 := digNext_val d A c l.length l rfl N hN w1 H_hd.out H_l1.out (by omega) H_hf.out H_t1.out
  have hnn : (N == N) = true := by simp
  have H_q2 := Lib.hid q2; clear q2; have H_hN := Lib.hid hN; clear hN
  go_wp2_with fail
  refine H_q2.out.mono ?_
  rintro e w2 ⟨rfl, b2⟩
  have s2 := b2.size
  (try simp only [World.size_alloc, World.heap_drewN, World.size_setCell, heap_drew] at s2)
  have bb2 := H_bb1.out.trans (b2.mono (by first | omega | (simp; omega)))
  have l2 := H_l1.out.below b2
  have t2 := H_t1.out.below b2
  have H_b2 := Lib.hid b2; clear b2; have H_bb2 := Lib.hid bb2; clear bb2; have H_l2 := Lib.hid l2; clear l2; have H_t2 := Lib.hid t2; clear t2
  have q3 := refText_any d A c l w2 H_hd.out H_l2.out (by omega) H_hf.out
  have htl := textB_len d l H_hf.out
  have htb := textB_bytes d l
  have fin : sumB 14695981039346656037 (textB d l) = N := by rw [← H_hN.out]; rfl
  generalize textB d l = T at *
  have H_q3 := Lib.hid q3; clear q3; have H_htb := Lib.hid htb; clear htb; have H_fin := Lib.hid fin; clear fin
  go_wp2_with fail
  refine H_q3.out.mono ?_
  rintro e w3 ⟨B, x, rfl, o3, b3⟩
  have s3 := b3.size
  have bb3 := H_bb2.out.trans (b3.mono (by omega))
  have l3 := H_l2.out.below b3
  have t3 := H_t2.out.below b3
  have q4 := digSum_val B x T.length T rfl N H_fin.out w3 o3.ints (by omega) H_htb.out
  have H_b3 := Lib.hid b3; clear b3; have H_bb3 := Lib.hid bb3; clear bb3; have H_l3 := Lib.hid l3; clear l3; have H_t3 := Lib.hid t3; clear t3; have H_q4 := Lib.hid q4; clear q4; have H_o3 := Lib.hid o3; clear o3
  go_wp2_with fail
  refine H_q4.out.mono ?_
  rintro e w4 ⟨rfl, b4⟩
  have s4 := b4.size
  (try simp only [World.size_alloc, World.heap_drewN, World.size_setCell, heap_drew] at s4)
  have bb4 := H_bb3.out.trans (b4.mono (by first | omega | (simp; omega)))
  have l4 := H_l3.out.below b4
  have t4 := H_t3.out.below b4
  have H_b4 := Lib.hid b4; clear b4; have H_bb4 := Lib.hid bb4; clear bb4; have H_l4 := Lib.hid l4; clear l4; have H_t4 := Lib.hid t4; clear t4
  have q5 := turned_any A c l which by_ w4 H_l4.out (by omega) H_ha.out H_hb.out
  have H_q5 := Lib.hid q5; clear q5
  go_wp2_with fail
  refine H_q5.out.mono ?_
  rintro e w5 ⟨b5, h5⟩
  have s5 := b5.size
  have bb5 := H_bb4.out.trans (b5.mono (by omega))
  have l5 := H_l4.out.below b5
  have t5 := H_t4.out.below b5
  have H_b5 := Lib.hid b5; clear b5; have H_bb5 := Lib.hid bb5; clear bb5; have H_l5 := Lib.hid l5; clear l5; have H_t5 := Lib.hid t5; clear t5
  rcases h5 with ⟨h5, rfl⟩ | ⟨h5, X, y, rfl, h6, h7⟩
  · have H_h5 := Lib.hid h5; clear h5
    go_wp2_with fail
    go_ret
    exact ⟨rfl, H_bb5.out⟩
  · have q6 := digNext_val d A c l.length l rfl N H_hN.out w5 H_hd.out H_l5.out (by omega) H_hf.out H_t5.out
    have hne := next_turn d l (at16 l which) by_ (at16_lt h5.1) h5.2.1 H_hb.out.1
    rw [H_hN.out] at hne
    have q7 := fun W (h1 : IntsAt W X .i64 (turnedL l which by_)) h2 => digNext_val d X y l.length (turnedL l which by_) (turned_len _ _ _) _ rfl W H_hd.out h1 (by omega) (turned_fit H_hf.out h5 H_hb.out.1) h2
    change N ≠ nextB d (turnedL l which by_) at hne
    generalize nextB d (turnedL l which by_) = M at *
    have hnm : (N != M) = true := by rw [bne_iff_ne]; exact hne
    have m5 := h7
    have H_h5 := Lib.hid h5; clear h5; have H_h7 := Lib.hid h7; clear h7; have H_q6 := Lib.hid q6; clear q6; have H_q7 := Lib.hid q7; clear q7; have H_hne := Lib.hid hne; clear hne; have H_m5 := Lib.hid m5; clear m5
    go_wp2_with fail
    refine H_q6.out.mono ?_
    rintro e w6 ⟨rfl, b6⟩
    have s6 := b6.size
    (try simp only [World.size_alloc, World.heap_drewN, World.size_setCell, heap_drew] at s6)
    have bb6 := H_bb5.out.trans (b6.mono (by first | omega | (simp; omega)))
    have m6 := H_m5.out.below b6
    have t6 := H_t5.out.below b6
    have H_b6 := Lib.hid b6; clear b6; have H_bb6 := Lib.hid bb6; clear bb6; have H_m6 := Lib.hid m6; clear m6; have H_t6 := Lib.hid t6; clear t6
    have q8 := H_q7.out w6 H_m6.out H_t6.out
    have H_q8 := Lib.hid q8; clear q8
    go_wp2_with fail
    refine H_q8.out.mono ?_
    rintro e w7 ⟨rfl, b7⟩
    have s7 := b7.size
    (try simp only [World.size_alloc, World.heap_drewN, World.size_setCell, heap_drew] at s7)
    have bb7 := H_bb6.out.trans (b7.mono (by first | omega | (simp; omega)))
    have H_b7 := Lib.hid b7; clear b7; have H_bb7 := Lib.hid bb7; clear bb7
    go_wp2_with fail
    go_ret
    exact ⟨rfl, H_bb7.out⟩
end Go.Proofs.YtopdgjpoknndmaaDoor
