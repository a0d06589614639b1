/- The walk of SlotLosses. -/
import Derived.Test.YtncfilbpgomncaaDoorSlL5a
import Derived.Deep.CutRange
namespace Go.Proofs.YtncfilbpgomncaaDoor
set_option linter.unusedSimpArgs false
set_option linter.unusedVariables false
set_option maxRecDepth 100000
open Go.RowKit

/-- the courses that came in -/
def DsAt (w : World) (A : Option Addr) (l : List Dd) : Prop := RowsAt 3 DdAt w A l
theorem DsAt.below {w w' : World} {A : Option Addr} {l : List Dd} (h : DsAt w A l) (hb : Below w.heap.size w w') : DsAt w' A l := RowsAt.below h (DdAt.below hb) hb
/-- what holds at the head of each round -/
def LSt (w1 : World) (N : Nat) (dn i : Value) (wr : World) : Prop :=
  ∃ (k done : Nat) (x y : Slt) (X : Option Addr) (p : Nat) (Y : Option Addr) (q : Nat) (cL : Int) (L : List Int) (E : Option Addr) (ce : Nat) (aL : Int), k ≤ N ∧ i = .int .i64 k ∧ dn = .int .i64 done ∧ done ≤ k ∧ LInv done x y cL (rise L).1 ∧ Below w1.heap.size w1 wr ∧
    Blk wr w1.heap.size #[.int .i64 x.s, .int .i64 x.c, .slice X x.l.length p, .int .u64 x.u, .int .i64 y.s, .int .i64 y.c, .slice Y y.l.length q, .int .u64 y.u] ∧ Blk wr (w1.heap.size + 1) #[.int .u16 cL, .slice E L.length ce, .int .u8 aL] ∧ IntsAt wr X .i64 x.l ∧ IntsAt wr Y .i64 y.l ∧ IntsAt w1 E .u8 L ∧ Apart X x.l w1 ∧ Apart Y y.l w1 ∧ (∀ z ∈ L, 0 ≤ z ∧ z ≤ 255) ∧ (0 ≤ cL ∧ cL ≤ 65535) ∧ L.length ≤ 9223372036854775807

set_option maxHeartbeats 8000000 in
theorem slotLosses_walk (A : Option Addr) (cp : Nat) (l : List Dd) (w0 : World) (hl : RowsAt 3 DdAt w0 A l) (hlc : l.length ≤ cp) (hcm : cp ≤ maxLen) (ht : Tab w0) :
    Calls Tryd.prog 11 #[.slice A l.length cp] w0 fun e w' => e = .returned (.bool true) ∧ Below w0.heap.size w0 w' := by
  unfold maxLen at hcm
  generalize hN : l.length = N at *
  have bb0 := Below.refl w0.heap.size w0
  have t0 := ht
  have r0 : DsAt w0 A l := hl
  have q1 := head36_any w0 ht
  have H_hl := Lib.hid hl; clear hl; have H_ht := Lib.hid ht; clear ht; have H_bb0 := Lib.hid bb0; clear bb0; have H_t0 := Lib.hid t0; clear t0; have H_r0 := Lib.hid r0; clear r0; have H_q1 := Lib.hid q1; clear q1; have H_hN := Lib.hid hN; clear hN
  go_enter Tryd.func11, Tryd.ntmps11
  go_wp2_with fail
  (with_reducible refine (H_q1.out).mono ?_)
  rintro e w1 ⟨rfl, b1⟩
  have c1 : Below w0.heap.size w0 w1 := Below.trans (by (repeat (first | with_reducible exact Below.refl _ _ | with_reducible exact Nat.le_refl _ | with_reducible assumption | with_reducible refine Below.drew ?_ | with_reducible refine below_drewN ?_ _ | with_reducible refine Below.alloc ?_ ?_ _ | with_reducible refine Below.setCell ?_ ?_ _ | with_reducible exact And.right (by assumption) | with_reducible refine Below.trans ?_ (Below.mono (by assumption) ?_) | with_reducible exact Below.size (And.right (by assumption)) | (focus omega) | (focus (simp; done)) | (focus (simp; omega)) | (focus (simp at *; omega))))) (b1.mono (by first | exact Nat.le_refl _ | omega | (simp; done) | (simp; omega)))
  have s1 := c1.size
  have bb1 := H_bb0.out.trans (c1.mono H_bb0.out.size)
  have t1 := H_t0.out.below c1
  have r1 := H_r0.out.below c1
  have H_b1 := Lib.hid b1; clear b1; have H_c1 := Lib.hid c1; clear c1; have H_bb1 := Lib.hid bb1; clear bb1; have H_t1 := Lib.hid t1; clear t1; have H_r1 := Lib.hid r1; clear r1
  by_cases n40 : N ≤ 40
  rotate_left
  · have d1 : ¬ ((N : Int) ≤ 40) := by omega
    go_wp2_with fail
    go_ret
    exact ⟨rfl, H_bb1.out⟩
  have d1 : (N : Int) ≤ 40 := by omega
  go_wp2_with fail
  obtain ⟨w2, hw2⟩ : ∃ W, (w1.alloc (.cells #[.int .i64 0, .int .i64 0, .slice none 0 0, .int .u64 0, .int .i64 0, .int .i64 0, .slice none 0 0, .int .u64 0] 51)).alloc (.cells #[.int .u16 0, .slice none 0 0, .int .u8 0] 69) = W := ⟨_, rfl⟩
  rw [hw2]
  have c2 : Below w1.heap.size w1 w2 := by rw [← hw2]; exact ((Below.refl _ _).alloc (Nat.le_refl _) _).alloc (by simp) _
  have st2 : LSt w1 N (.int .i64 0) (.int .i64 0) w2 := by
    refine ⟨0, 0, Slt.zero, Slt.zero, none, 0, none, 0, 0, [], none, 0, 0, by omega, rfl, rfl, by omega, linv_zero _ _, c2, ?_, ?_, IntsAt.nil, IntsAt.nil, IntsAt.nil, fun b off hl => absurd rfl hl, fun b off hl => absurd rfl hl, fun z hz => by simp at hz, by omega, by simp⟩
    · rw [← hw2]; exact (blk_new rfl).alloc _
    · rw [← hw2]; exact blk_new (by simp)
  have H_hw2 := Lib.hid hw2; clear hw2; have H_c2 := Lib.hid c2; clear c2; have H_st2 := Lib.hid st2; clear st2
  go_loopw [5, 20] (fun dn i wr => LSt w1 N dn i wr) (fun _ i _ => N - (intOf i).toNat)
  case atStart => exact H_st2.out
  case round =>
    obtain ⟨k, done, x, y, X, p, Y, q, cL, L, E, ce, aL, hk, rfl, rfl, hdk, hinv, hbw, hb4, hb6, hX, hY, hE, hpX, hpY, hLb, hcL, hLl⟩ := hrel
    have hT := H_t1.out.below hbw
    have hR := H_r1.out.below hbw
    have hsz := hbw.size
    have l4 := (hb4 0 _ rfl).lt
    have l6 := (hb6 0 _ rfl).lt
    by_cases hlt : k < N
    · have g1 : (k : Int) < (N : Int) := by omega
      have g0 : (0 : Int) ≤ (k : Int) := by omega
      obtain ⟨z, hz⟩ : ∃ z, l[k]? = some z := ⟨_, List.getElem?_eq_getElem (by rw [H_hN.out]; exact hlt)⟩
      obtain ⟨b, off, cs, rfl, hbl, hcl, hcs, hda⟩ := hR k z hz
      obtain ⟨b1', off1', cs1', e1', hbl1', hcl1', hcs1', hda1'⟩ := H_r1.out k z hz
      injection e1' with e1'
      injection e1' with ea eb
      subst ea eb
      obtain ⟨B, cap, rfl, hBi, hBc, hBm, hzc, hza, hzb⟩ := hda
      have hB1 : IntsAt w1 B .u8 z.l := by
        obtain ⟨B', cap', rfl, hB', _⟩ := hda1'
        have ha1 := hcs1' 1 (by omega)
        have ha2 := hcs 1 (by omega)
        have ha3 := (hbw.cell (p := ⟨b, off + (k * 3 + 1), none⟩) hbl1').trans ha1
        rw [ha2] at ha3
        have ha4 : (some (Value.slice B z.l.length cap) : Option Value) = some (Value.slice B' z.l.length cap') := ha3
        injection ha4 with ha5
        injection ha5 with ha6 _ _
        rw [ha6]; exact hB'
      clear hda1' hcs1' hcl1' hbl1'
      have h0 : wr.cell? ⟨b, off + k * 3, none⟩ = some (.int .u16 z.c) := hcs 0 (by omega)
      have h1 : wr.cell? ⟨b, off + k * 3 + 1, none⟩ = some (.slice B z.l.length cap) := by have := hcs 1 (by omega); rw [← Nat.add_assoc] at this; exact this
      have h2 : wr.cell? ⟨b, off + k * 3 + 2, none⟩ = some (.int .u8 z.a) := by have := hcs 2 (by omega); rw [← Nat.add_assoc] at this; exact this
      have za0 := hza.1; have za1 := hza.2
      have zc0 := hzc.1; have zc1 := hzc.2
      have hF := rise_fld hzb hzc
      have hfr := rise_fit hzb
      have hEE := linv_E hinv (by omega) hF (a := z.a % 4) (by omega)
      have hst := linv_step hinv (by omega) hF hfr (a := z.a % 4) (by omega)
      have q2 := fun W (h : IntsAt W B .u8 z.l) => rising_any B cap z.l.length z.l rfl W h (by omega) hzb
      have hrl := rise_len hzb
      have q3 := fun W R cr (h : SlotIs W X x.l.length x) (h2 : SlotIs W Y y.l.length y) (h0 : IntsAt W R .i64 (rise z.l).1) h3 => write2_ok x y z.c (z.a % 4) X x.l.length p Y y.l.length q R (rise z.l).1.length cr (rise z.l).1 rfl W h h2 (by omega) h0 hfr h3 hEE
      unfold SlotsErr2 at q3
      unfold NewList at q2
      have x0 := hinv.fx.is hX
      have y0 := hinv.fy.is hY
      generalize hx2 : wr0 x y z.c (rise z.l).1 (z.a % 4) = x2 at *
      generalize hy2 : wr1 x y z.c (rise z.l).1 (z.a % 4) = y2 at *
      generalize hRR : (rise z.l).1 = RR at *
      have H_hinv := Lib.hid hinv; clear hinv; have H_hbw := Lib.hid hbw; clear hbw; have H_hb4 := Lib.hid hb4; clear hb4; have H_hb6 := Lib.hid hb6; clear hb6; have H_hX := Lib.hid hX; clear hX; have H_hY := Lib.hid hY; clear hY; have H_hE := Lib.hid hE; clear hE; have H_hpX := Lib.hid hpX; clear hpX; have H_hpY := Lib.hid hpY; clear hpY; have H_hLb := Lib.hid hLb; clear hLb; have H_hcL := Lib.hid hcL; clear hcL; have H_hT := Lib.hid hT; clear hT; have H_hR := Lib.hid hR; clear hR; have H_hBi := Lib.hid hBi; clear hBi; have H_hza := Lib.hid hza; clear hza; have H_hzc := Lib.hid hzc; clear hzc; have H_hzb := Lib.hid hzb; clear hzb; have H_hF := Lib.hid hF; clear hF; have H_hfr := Lib.hid hfr; clear hfr; have H_hEE := Lib.hid hEE; clear hEE; have H_hst := Lib.hid hst; clear hst; have H_q2 := Lib.hid q2; clear q2; have H_q3 := Lib.hid q3; clear q3; have H_hrl := Lib.hid hrl; clear hrl; have H_x0 := Lib.hid x0; clear x0; have H_y0 := Lib.hid y0; clear y0; have H_hx2 := Lib.hid hx2; clear hx2; have H_hy2 := Lib.hid hy2; clear hy2; have H_hRR := Lib.hid hRR; clear hRR; have H_hcs := Lib.hid hcs; clear hcs; have H_hz := Lib.hid hz; clear hz; have H_hB1 := Lib.hid hB1; clear hB1
      go_upto_region 10 with (fail)
      obtain ⟨w3, hw3⟩ : ∃ W, wr.alloc (.cells #[.int .u16 z.c, .slice B z.l.length cap, .int .u8 z.a] 69) = W := ⟨_, rfl⟩
      rw [hw3]
      clear h0 h1 h2
      have c3 : Below wr.heap.size wr w3 := by rw [← hw3]; exact (Below.refl _ _).alloc (Nat.le_refl _) _
      have e3 : Blk w3 wr.heap.size #[.int .u16 z.c, .slice B z.l.length cap, .int .u8 z.a] := by rw [← hw3]; exact blk_new rfl
      have f3 := H_hb4.out.below c3
      have v3 := H_hb6.out.below c3
      have x3 := H_x0.out.below c3
      have y3 := H_y0.out.below c3
      have t3 := H_hT.out.below c3
      have i3 := H_hBi.out.below c3
      have s3 := c3.size
      have le := (e3 0 _ rfl).lt
      have lf := (f3 0 _ rfl).lt
      have H_hw3 := Lib.hid hw3; clear hw3; have H_c3 := Lib.hid c3; clear c3; have H_e3 := Lib.hid e3; clear e3; have H_f3 := Lib.hid f3; clear f3; have H_v3 := Lib.hid v3; clear v3; have H_x3 := Lib.hid x3; clear x3; have H_y3 := Lib.hid y3; clear y3; have H_t3 := Lib.hid t3; clear t3; have H_i3 := Lib.hid i3; clear i3
      have ce0 := (H_e3.out 0 _ rfl).at
      have ce1 := (H_e3.out 1 _ rfl).at
      have ce2 := (H_e3.out 2 _ rfl).at
      have cf0 := (H_f3.out 0 _ rfl).at
      have cf1 := (H_f3.out 1 _ rfl).at
      have cf2 := (H_f3.out 2 _ rfl).at
      have cf3 := (H_f3.out 3 _ rfl).at
      have cf4 := (H_f3.out 4 _ rfl).at
      have cf5 := (H_f3.out 5 _ rfl).at
      have cf6 := (H_f3.out 6 _ rfl).at
      have cf7 := (H_f3.out 7 _ rfl).at
      have k1 : IntKind.i64.wrap z.c = z.c := IntWalk.i64_in _ (by omega)
      have k2 : z.a.tmod 4 = z.a % 4 := Int.tmod_eq_emod_of_nonneg za0
      have k3 : IntKind.i64.wrap (z.a % 4) = z.a % 4 := IntWalk.i64_in _ (by omega)
      have h13 : w1.heap.size + 1 < w3.heap.size := by omega
      go_cut [9, 10, 20] from 20 to 49 (fun c9 c10 c20 wx => c10 = .int .i64 0 ∧ c20 = .int .i64 k ∧ ∃ (B9 : Nat) (X5 : Option Addr) (p5 : Nat) (Y5 : Option Addr) (q5 : Nat), c9 = .pointer (some ⟨B9, 0, none⟩) ∧ Mid w1 w3 wx B9 x2 y2 X5 p5 Y5 q5)
      case first =>
        go_region_held3 (fun W => (∀ b o, b < w3.heap.size → W.cell? ⟨b, o, none⟩ = w3.cell? ⟨b, o, none⟩) ∧ Below w3.heap.size w3 W) (first | (refine ext_mk ?_; (repeat (first | with_reducible exact Below.refl _ _ | with_reducible exact Nat.le_refl _ | with_reducible assumption | with_reducible refine Below.drew ?_ | with_reducible refine below_drewN ?_ _ | with_reducible refine Below.alloc ?_ ?_ _ | with_reducible refine Below.setCell ?_ ?_ _ | with_reducible exact And.right (by assumption) | with_reducible refine Below.trans ?_ (Below.mono (by assumption) ?_) | with_reducible exact Below.size (And.right (by assumption)) | (focus omega) | (focus (simp; done)) | (focus (simp; omega)) | (focus (simp at *; omega)))))) (first | (go_at_call 43; (with_reducible refine (H_q2.out _ ?_).mono ?_); (focus (exact H_i3.out.below (And.right (by assumption : _ ∧ Below w3.heap.size w3 _)))); rintro e w4 ⟨R, cr, rfl, hoR, hbw4⟩; have gw4 := Below.trans (And.right (by assumption : _ ∧ Below w3.heap.size w3 _)) (hbw4.mono (Below.size (And.right (by assumption : _ ∧ Below w3.heap.size w3 _)))); have gsw4 := gw4.size; have hcf := bcell hbw4; have hcw4 := hcf.1; have hfw4 := hcf.2; have hsw4 := hbw4.size; (try simp only [World.size_alloc, World.heap_drewN, heap_drew] at hsw4); clear hbw4 hcf; (try have hzw4 : w3.heap.size < w4.heap.size := by omega)) | (go_at_call 39; (with_reducible refine (H_q3.out _ R cr ?_ ?_ ?_ ?_).mono ?_); (focus (exact H_x3.out.below (And.right (by assumption : _ ∧ Below w3.heap.size w3 _)))); (focus (exact H_y3.out.below (And.right (by assumption : _ ∧ Below w3.heap.size w3 _)))); (focus ((first | exact hoR.ints | exact (hoR.alloc _).ints))); (focus (exact H_t3.out.below (And.right (by assumption : _ ∧ Below w3.heap.size w3 _)))); rintro e w5 ⟨X5, p5, Y5, q5, rfl, oX, oY, hbw5⟩; have gw5 := Below.trans (And.right (by assumption : _ ∧ Below w3.heap.size w3 _)) (hbw5.mono (Below.size (And.right (by assumption : _ ∧ Below w3.heap.size w3 _)))); have gsw5 := gw5.size; have hcf := bcell hbw5; have hcw5 := hcf.1; have hfw5 := hcf.2; have hsw5 := hbw5.size; (try simp only [World.size_alloc, World.heap_drewN, heap_drew] at hsw5); clear hbw5 hcf; (try have hzw5 : w3.heap.size < w5.heap.size := by omega)))
        all_goals
          clear k1 k2 k3
          go_wp2_with fail
          first
          | (have mid := mid_new (t := 51) (p5 := p5) (q5 := q5) h13 (show w3.heap.size ≤ w4.heap.size by omega) gw5 oX oY H_hpX.out H_hpY.out
             have H_mid := Lib.hid mid; clear mid
             go_meet
             case rel => with_reducible exact ⟨rfl, rfl, _, X5, p5, Y5, q5, rfl, H_mid.out⟩)
          | (have z5 : Blk w5 w4.heap.size #[.int .i64 0, .int .i64 0, .slice none 0 0, .int .u64 0, .int .i64 0, .int .i64 0, .slice none 0 0, .int .u64 0] := blk_after hcw5 hfw5 (by simp; omega) (blk_new rfl)
             have mid := mid_old (p5 := p5) (q5 := q5) h13 (by simp; omega) gw5 oX oY H_hpX.out H_hpY.out H_x3.out.ints H_y3.out.ints (by omega) (by simp) z5
             unfold put8 at mid
             have H_mid := Lib.hid mid; clear mid; have H_z5 := Lib.hid z5; clear z5
             go_meet
             case rel => with_reducible exact ⟨rfl, rfl, _, X5, p5, Y5, q5, rfl, H_mid.out⟩)
          | (have z4 : Blk w4 w3.heap.size #[.int .i64 0, .int .i64 0, .slice none 0 0, .int .u64 0, .int .i64 0, .int .i64 0, .slice none 0 0, .int .u64 0] := blk_after hcw4 hfw4 (by simp; omega) (blk_new rfl)
             have z5 := blk_after hcw5 hfw5 (by omega) z4
             have mid := mid_old (p5 := p5) (q5 := q5) h13 (by omega) gw5 oX oY H_hpX.out H_hpY.out H_x3.out.ints H_y3.out.ints (Nat.le_refl _) (by omega) z5
             unfold put8 at mid
             have H_mid := Lib.hid mid; clear mid; have H_z4 := Lib.hid z4; clear z4; have H_z5 := Lib.hid z5; clear z5
             go_meet
             case rel => with_reducible exact ⟨rfl, rfl, _, X5, p5, Y5, q5, rfl, H_mid.out⟩)
      case rest =>
        clear k1 k2 k3
        obtain ⟨rfl, rfl, B9, X5, p5, Y5, q5, rfl, mid⟩ := hcut
        obtain ⟨w6, hw6⟩ : ∃ W, wc = W := ⟨_, rfl⟩
        rw [hw6] at mid ⊢
        obtain ⟨c6, hB9g, d6, o6, u6, provX, provY⟩ := mid
        have s6 := c6.size
        have hne1 : w1.heap.size ≠ B9 := by omega
        have hne2 : B9 ≠ w1.heap.size := by omega
        have f6 := H_f3.out.below c6
        have v6 := H_v3.out.below c6
        have e6 := H_e3.out.below c6
        have pX := provX
        have pY := provY
        clear provX provY
        clear ce0 ce1 ce2
        clear cf0 cf1 cf2 cf3 cf4 cf5 cf6 cf7
        have H_hw6 := Lib.hid hw6; clear hw6; have H_c6 := Lib.hid c6; clear c6; have H_d6 := Lib.hid d6; clear d6; have H_o6 := Lib.hid o6; clear o6; have H_u6 := Lib.hid u6; clear u6; have H_f6 := Lib.hid f6; clear f6; have H_v6 := Lib.hid v6; clear v6; have H_e6 := Lib.hid e6; clear e6; have H_pX := Lib.hid pX; clear pX; have H_pY := Lib.hid pY; clear pY
        have cd0 := (H_d6.out 0 _ rfl).at
        have cd1 := (H_d6.out 1 _ rfl).at
        have cd2 := (H_d6.out 2 _ rfl).at
        have cd3 := (H_d6.out 3 _ rfl).at
        have cd4 := (H_d6.out 4 _ rfl).at
        have cd5 := (H_d6.out 5 _ rfl).at
        have cd6 := (H_d6.out 6 _ rfl).at
        have cd7 := (H_d6.out 7 _ rfl).at
        have cf0 := (H_f6.out 0 _ rfl).at
        have cf1 := (H_f6.out 1 _ rfl).at
        have cf2 := (H_f6.out 2 _ rfl).at
        have cf3 := (H_f6.out 3 _ rfl).at
        have cf4 := (H_f6.out 4 _ rfl).at
        have cf5 := (H_f6.out 5 _ rfl).at
        have cf6 := (H_f6.out 6 _ rfl).at
        have cf7 := (H_f6.out 7 _ rfl).at
        have ff0 := (H_f6.out 0 _ rfl).free; have ff1 := (H_f6.out 1 _ rfl).free; have ff2 := (H_f6.out 2 _ rfl).free; have ff3 := (H_f6.out 3 _ rfl).free; have ff4 := (H_f6.out 4 _ rfl).free; have ff5 := (H_f6.out 5 _ rfl).free; have ff6 := (H_f6.out 6 _ rfl).free; have ff7 := (H_f6.out 7 _ rfl).free
        have ld := (H_d6.out 0 _ rfl).lt
        have lf6 := (H_f6.out 0 _ rfl).lt
        go_upto_region 14 with (fail)
        clear cd0 cd1 cd2 cd3 cd4 cd5 cd6 cd7
        clear cf0 cf1 cf2 cf3 cf4 cf5 cf6 cf7
        clear ff0 ff1 ff2 ff3 ff4 ff5 ff6 ff7
        obtain ⟨w7, hw7⟩ : ∃ W, put8 w6 w1.heap.size (.int .i64 x2.s) (.int .i64 x2.c) (.slice X5 x2.l.length p5) (.int .u64 x2.u) (.int .i64 y2.s) (.int .i64 y2.c) (.slice Y5 y2.l.length q5) (.int .u64 y2.u) = W := ⟨_, rfl⟩
        unfold put8 at hw7
        rw [hw7]
        have hx7 : put8 w6 w1.heap.size (.int .i64 x2.s) (.int .i64 x2.c) (.slice X5 x2.l.length p5) (.int .u64 x2.u) (.int .i64 y2.s) (.int .i64 y2.c) (.slice Y5 y2.l.length q5) (.int .u64 y2.u) = w7 := hw7
        clear hw7
        have hme1 : w1.heap.size ≠ w1.heap.size + 1 := by omega
        have hme2 : w1.heap.size ≠ wr.heap.size := by omega
        have hme3 : w1.heap.size + 1 ≠ wr.heap.size := by omega
        have hme4 : wr.heap.size ≠ w1.heap.size + 1 := by omega
        have f7 : Blk w7 w1.heap.size #[.int .i64 x2.s, .int .i64 x2.c, .slice X5 x2.l.length p5, .int .u64 x2.u, .int .i64 y2.s, .int .i64 y2.c, .slice Y5 y2.l.length q5, .int .u64 y2.u] := by rw [← hx7]; exact put8_blk H_f6.out
        have v7 : Blk w7 (w1.heap.size + 1) #[.int .u16 cL, .slice E L.length ce, .int .u8 aL] := by rw [← hx7]; exact put8_far H_v6.out hme1
        have e7 : Blk w7 wr.heap.size #[.int .u16 z.c, .slice B z.l.length cap, .int .u8 z.a] := by rw [← hx7]; exact put8_far H_e6.out hme2
        have c7 : Below w1.heap.size w1 w7 := by rw [← hx7]; exact put8_below (H_hbw.out.trans ((H_c3.out.trans (H_c6.out.mono H_c3.out.size)).mono H_hbw.out.size)) (Nat.le_refl _)
        have o7 : IntsAt w7 X5 .i64 x2.l := by rw [← hx7]; exact put8_ints H_o6.out (fun b' off hl hA => (H_pX.out b' off hl hA).1)
        have u7 : IntsAt w7 Y5 .i64 y2.l := by rw [← hx7]; exact put8_ints H_u6.out (fun b' off hl hA => (H_pY.out b' off hl hA).1)
        have sz7 : w7.heap.size = w6.heap.size := by rw [← hx7]; exact put8_size
        have le7 := (e7 0 _ rfl).lt
        have lv7 := (v7 0 _ rfl).lt
        have H_hx7 := Lib.hid hx7; clear hx7; have H_f7 := Lib.hid f7; clear f7; have H_v7 := Lib.hid v7; clear v7; have H_e7 := Lib.hid e7; clear e7; have H_c7 := Lib.hid c7; clear c7; have H_o7 := Lib.hid o7; clear o7; have H_u7 := Lib.hid u7; clear u7; have H_sz7 := Lib.hid sz7; clear sz7
        have ce0 := (H_e7.out 0 _ rfl).at
        have ce1 := (H_e7.out 1 _ rfl).at
        have ce2 := (H_e7.out 2 _ rfl).at
        by_cases ha2 : z.a % 4 < 2
        · have i2 : decide (2 ≤ z.a % 4) = false := decide_eq_false (by omega)
          have k2 : z.a.tmod 4 = z.a % 4 := Int.tmod_eq_emod_of_nonneg za0
          go_wp2_with fail
          go_roundw
          case rel => exact ⟨k + 1, done, x2, y2, X5, p5, Y5, q5, cL, L, E, ce, aL, by omega, by go_num, rfl, by omega, H_hst.out.1 ha2, H_c7.out, H_f7.out, H_v7.out, H_o7.out, H_u7.out, H_hE.out, H_pX.out, H_pY.out, H_hLb.out, H_hcL.out, hLl⟩
          case measure => simp [intOf]; omega
        · have i2 : decide (2 ≤ z.a % 4) = true := decide_eq_true (by omega)
          have k2 : z.a.tmod 4 = z.a % 4 := Int.tmod_eq_emod_of_nonneg za0
          have k4 : IntKind.i64.wrap ((done : Int) + 1) = (done : Int) + 1 := IntWalk.i64_in _ (by omega)
          have v0 := (H_v7.out 0 _ rfl).at; have v1 := (H_v7.out 1 _ rfl).at; have v2 := (H_v7.out 2 _ rfl).at
          have vf0 := (H_v7.out 0 _ rfl).free; have vf1 := (H_v7.out 1 _ rfl).free; have vf2 := (H_v7.out 2 _ rfl).free
          go_wp2_with fail
          refine wp_region_held_drew (S := (fun W => W.cell? ⟨wr.heap.size, 0, none⟩ = some (.int .u16 z.c) ∧ W.cell? ⟨wr.heap.size, 1, none⟩ = some (.slice B z.l.length cap) ∧ W.cell? ⟨wr.heap.size, 2, none⟩ = some (.int .u8 z.a))) (by kernel_rfl) ?_ (fun hHeld => ?_)
          · (try dsimp only); go_keep
          refine take_at (i := 0) (some 46) rfl rfl (by kernel_rfl) (fun _ _ _ h => h) (by rfl) (v := ?_) ?_ (by assumption) ?_
          rotate_left
          · intro W hSw; (try dsimp only at hSw); go_simp; (try with_reducible rfl)
          (try simp only [Act.put, List.setIfInBounds_toArray, List.set_cons_zero, List.set_cons_succ])
          refine take_at (i := 1) (some 47) rfl rfl (by kernel_rfl) (fun _ _ _ h => h) (by rfl) (v := ?_) ?_ (by assumption) ?_
          rotate_left
          · intro W hSw; (try dsimp only at hSw); go_simp; (try with_reducible rfl)
          (try simp only [Act.put, List.setIfInBounds_toArray, List.set_cons_zero, List.set_cons_succ])
          refine take_at (i := 2) (some 48) rfl rfl (by kernel_rfl) (fun _ _ _ h => h) (by rfl) (v := ?_) ?_ (by assumption) ?_
          rotate_left
          · intro W hSw; (try dsimp only at hSw); go_simp; (try with_reducible rfl)
          (try simp only [Act.put, List.setIfInBounds_toArray, List.set_cons_zero, List.set_cons_succ])
          refine take_at (i := 3) (some 5) rfl rfl (by kernel_rfl) (fun _ _ _ h => h) (by rfl) (v := ?_) ?_ (by assumption) ?_
          rotate_left
          · intro W hSw; (try dsimp only at hSw); go_simp; (try with_reducible rfl)
          (try simp only [Act.put, List.setIfInBounds_toArray, List.set_cons_zero, List.set_cons_succ])
          refine wpAnyH_ready (rs := [4]) (by kernel_rfl) (by simp) ?_
          refine AllReadyH.cons rfl (fun K hK => ?_) AllReadyH.nil
          go_simp
          refine hK.out _ _ ?_ (fun hHeld => ?_)
          · (try dsimp only); go_keep
          clear hK K
          (try simp only [Act.put, List.setIfInBounds_toArray, List.set_cons_zero, List.set_cons_succ])
          refine wpAnyH_done (by kernel_rfl) ?_ _
          go_wp2_with fail
          obtain ⟨w8, hw8⟩ : ∃ W, (((w7.setCell ⟨w1.heap.size + 1, 0, none⟩ (.int .u16 z.c)).setCell ⟨w1.heap.size + 1, 1, none⟩ (.slice B z.l.length cap)).setCell ⟨w1.heap.size + 1, 2, none⟩ (.int .u8 z.a)).drew = W := ⟨_, rfl⟩
          rw [hw8]
          have f8 : Blk w8 w1.heap.size #[.int .i64 x2.s, .int .i64 x2.c, .slice X5 x2.l.length p5, .int .u64 x2.u, .int .i64 y2.s, .int .i64 y2.c, .slice Y5 y2.l.length q5, .int .u64 y2.u] := by
            have h : Blk w7 w1.heap.size #[.int .i64 x2.s, .int .i64 x2.c, .slice X5 x2.l.length p5, .int .u64 x2.u, .int .i64 y2.s, .int .i64 y2.c, .slice Y5 y2.l.length q5, .int .u64 y2.u] := H_f7.out
            rw [← hw8]; exact ((h.far (by omega) _).far (by omega) _).far (by omega) _
          have v8 : Blk w8 (w1.heap.size + 1) #[.int .u16 z.c, .slice B z.l.length cap, .int .u8 z.a] := by
            have h : Blk w7 (w1.heap.size + 1) #[.int .u16 cL, .slice E L.length ce, .int .u8 aL] := H_v7.out
            rw [← hw8]; exact ((h.set 0 (.int .u16 z.c) (by simp)).set 1 (.slice B z.l.length cap) (by simp)).set 2 (.int .u8 z.a) (by simp)
          have c8 : Below w1.heap.size w1 w8 := by
            have h : Below w1.heap.size w1 w7 := H_c7.out
            rw [← hw8]; exact (below_set (below_set (below_set h (by omega) _ _) (by omega) _ _) (by omega) _ _).drew
          have o8 : IntsAt w8 X5 .i64 x2.l := by
            have h : IntsAt w7 X5 .i64 x2.l := H_o7.out
            rw [← hw8]; exact IntsAt.apart (IntsAt.apart (IntsAt.apart h (fun b' off hl hA => (H_pX.out b' off hl hA).2) _ _) (fun b' off hl hA => (H_pX.out b' off hl hA).2) _ _) (fun b' off hl hA => (H_pX.out b' off hl hA).2) _ _
          have u8 : IntsAt w8 Y5 .i64 y2.l := by
            have h : IntsAt w7 Y5 .i64 y2.l := H_u7.out
            rw [← hw8]; exact IntsAt.apart (IntsAt.apart (IntsAt.apart h (fun b' off hl hA => (H_pY.out b' off hl hA).2) _ _) (fun b' off hl hA => (H_pY.out b' off hl hA).2) _ _) (fun b' off hl hA => (H_pY.out b' off hl hA).2) _ _
          clear v0 v1 v2 vf0 vf1 vf2
          have hst2 := H_hst.out.2 (by omega)
          rw [← H_hRR.out] at hst2
          have zB := H_hzb.out
          have zC := H_hzc.out
          have H_hw8 := Lib.hid hw8; clear hw8; have H_f8 := Lib.hid f8; clear f8; have H_v8 := Lib.hid v8; clear v8; have H_c8 := Lib.hid c8; clear c8; have H_o8 := Lib.hid o8; clear o8; have H_u8 := Lib.hid u8; clear u8; have H_hst2 := Lib.hid hst2; clear hst2; have H_zB := Lib.hid zB; clear zB; have H_zC := Lib.hid zC; clear zC
          go_wp2_with fail
          go_roundw
          case rel => exact ⟨k + 1, done + 1, x2, y2, X5, p5, Y5, q5, z.c, z.l, B, cap, z.a, by omega, by go_num, by go_num, by omega, H_hst2.out, H_c8.out, H_f8.out, H_v8.out, H_o8.out, H_u8.out, H_hB1.out, H_pX.out, H_pY.out, H_zB.out, H_zC.out, by omega⟩
          case measure => simp [intOf]; omega
    · have g1 : ¬ (k : Int) < (N : Int) := by omega
      have bbr : Below w0.heap.size w0 wr := H_bb1.out.trans (hbw.mono H_bb1.out.size)
      have tr := hT
      have gr := hb4
      have vr := hb6
      have xr := hX
      have yr := hY
      have er := hE.below hbw
      have hn := fun h => best_none (hinv.none h)
      have hn0 := hinv.none
      have hs := hinv.some
      have ix := hinv.fx
      have iy := hinv.fy
      have q3 := fun W (h : IntsAt W X .i64 x.l) (h2 : IntsAt W Y .i64 y.l) h3 => best_any x y X x.l.length p Y y.l.length q W (ix.is h) (iy.is h2) h3
      have hbI := bestI_01 x y
      have q2 := fun W (h : IntsAt W E .u8 L) => rising_any E ce L.length L rfl W h hLl hLb
      unfold NewList at q2
      have hrl := rise_len hLb
      have q6 := fun W R cr (h : IntsAt W X .i64 x.l) (h2 : IntsAt W R .i64 (rise L).1) => rsays_any x cL X x.l.length p rfl R (rise L).1.length cr (rise L).1 rfl W (by have := ix.few; omega) (by omega) h h2
      have q7 := fun W R cr (h : IntsAt W Y .i64 y.l) (h2 : IntsAt W R .i64 (rise L).1) => rsays_any y cL Y y.l.length q rfl R (rise L).1.length cr (rise L).1 rfl W (by have := iy.few; omega) (by omega) h h2
      have hc0 := hcL.1; have hc1 := hcL.2
      have k1 : IntKind.i64.wrap cL = cL := IntWalk.i64_in _ (by omega)
      have htop0 : bestI x y = 0 → top x y = x := fun h => by rw [top, h, if_neg (by omega)]
      have htop1 : bestI x y = 1 → top x y = y := fun h => by rw [top, h, if_pos rfl]
      generalize (rise L).1 = RR at *
      by_cases hd0 : done = 0
      · have d0 : ((done : Int) == 0) = true := by rw [hd0]; rfl
        have e1 := (hn hd0).1
        have e2 := hn0 hd0
        rw [e1, e2] at q3
        clear hn hn0 hs htop0 htop1 hbI
        have H_hd0 := Lib.hid hd0; clear hd0; have H_e1 := Lib.hid e1; clear e1; have H_e2 := Lib.hid e2; clear e2; have H_q2 := Lib.hid q2; clear q2; have H_q3 := Lib.hid q3; clear q3; have H_q6 := Lib.hid q6; clear q6; have H_q7 := Lib.hid q7; clear q7; have H_hinv := Lib.hid hinv; clear hinv; have H_hbw := Lib.hid hbw; clear hbw; have H_hb4 := Lib.hid hb4; clear hb4; have H_hb6 := Lib.hid hb6; clear hb6; have H_hX := Lib.hid hX; clear hX; have H_hY := Lib.hid hY; clear hY; have H_hE := Lib.hid hE; clear hE; have H_hpX := Lib.hid hpX; clear hpX; have H_hpY := Lib.hid hpY; clear hpY; have H_hLb := Lib.hid hLb; clear hLb; have H_hcL := Lib.hid hcL; clear hcL; have H_hT := Lib.hid hT; clear hT; have H_hR := Lib.hid hR; clear hR; have H_bbr := Lib.hid bbr; clear bbr; have H_tr := Lib.hid tr; clear tr; have H_gr := Lib.hid gr; clear gr; have H_vr := Lib.hid vr; clear vr; have H_xr := Lib.hid xr; clear xr; have H_yr := Lib.hid yr; clear yr; have H_er := Lib.hid er; clear er; have H_ix := Lib.hid ix; clear ix; have H_iy := Lib.hid iy; clear iy; have H_hrl := Lib.hid hrl; clear hrl
        have g0 := (H_gr.out 0 _ rfl).at
        have g1 := (H_gr.out 1 _ rfl).at
        have g2 := (H_gr.out 2 _ rfl).at
        have g3 := (H_gr.out 3 _ rfl).at
        have g4 := (H_gr.out 4 _ rfl).at
        have g5 := (H_gr.out 5 _ rfl).at
        have g6 := (H_gr.out 6 _ rfl).at
        have g7 := (H_gr.out 7 _ rfl).at
        go_wp2_with fail
        (with_reducible refine (H_q3.out _ ?_ ?_ ?_).mono ?_)
        · exact H_xr.out.below (show Below wr.heap.size wr _ by (repeat (first | with_reducible exact Below.refl _ _ | with_reducible exact Nat.le_refl _ | with_reducible assumption | with_reducible refine Below.drew ?_ | with_reducible refine below_drewN ?_ _ | with_reducible refine Below.alloc ?_ ?_ _ | with_reducible refine Below.setCell ?_ ?_ _ | with_reducible exact And.right (by assumption) | with_reducible refine Below.trans ?_ (Below.mono (by assumption) ?_) | with_reducible exact Below.size (And.right (by assumption)) | (focus omega) | (focus (simp; done)) | (focus (simp; omega)) | (focus (simp at *; omega)))))
        · exact H_yr.out.below (show Below wr.heap.size wr _ by (repeat (first | with_reducible exact Below.refl _ _ | with_reducible exact Nat.le_refl _ | with_reducible assumption | with_reducible refine Below.drew ?_ | with_reducible refine below_drewN ?_ _ | with_reducible refine Below.alloc ?_ ?_ _ | with_reducible refine Below.setCell ?_ ?_ _ | with_reducible exact And.right (by assumption) | with_reducible refine Below.trans ?_ (Below.mono (by assumption) ?_) | with_reducible exact Below.size (And.right (by assumption)) | (focus omega) | (focus (simp; done)) | (focus (simp; omega)) | (focus (simp at *; omega)))))
        · exact H_tr.out.below (show Below wr.heap.size wr _ by (repeat (first | with_reducible exact Below.refl _ _ | with_reducible exact Nat.le_refl _ | with_reducible assumption | with_reducible refine Below.drew ?_ | with_reducible refine below_drewN ?_ _ | with_reducible refine Below.alloc ?_ ?_ _ | with_reducible refine Below.setCell ?_ ?_ _ | with_reducible exact And.right (by assumption) | with_reducible refine Below.trans ?_ (Below.mono (by assumption) ?_) | with_reducible exact Below.size (And.right (by assumption)) | (focus omega) | (focus (simp; done)) | (focus (simp; omega)) | (focus (simp at *; omega)))))
        rintro e w8 ⟨rfl, b8⟩
        have c8 : Below wr.heap.size wr w8 := Below.trans (by (repeat (first | with_reducible exact Below.refl _ _ | with_reducible exact Nat.le_refl _ | with_reducible assumption | with_reducible refine Below.drew ?_ | with_reducible refine below_drewN ?_ _ | with_reducible refine Below.alloc ?_ ?_ _ | with_reducible refine Below.setCell ?_ ?_ _ | with_reducible exact And.right (by assumption) | with_reducible refine Below.trans ?_ (Below.mono (by assumption) ?_) | with_reducible exact Below.size (And.right (by assumption)) | (focus omega) | (focus (simp; done)) | (focus (simp; omega)) | (focus (simp at *; omega))))) (b8.mono (by first | exact Nat.le_refl _ | omega | (simp; done) | (simp; omega)))
        have s8 := c8.size
        have bb8 := H_bbr.out.trans (c8.mono H_bbr.out.size)
        have H_b8 := Lib.hid b8; clear b8; have H_c8 := Lib.hid c8; clear c8; have H_bb8 := Lib.hid bb8; clear bb8
        go_wp2_with fail
        go_ret
        exact ⟨rfl, H_bb8.out⟩
      have d0 : ((done : Int) == 0) = false := by rw [beq_eq_false_iff_ne]; omega
      obtain ⟨e2, e3, e4⟩ := hs (by omega)
      rw [e2] at q3
      clear hn hn0 hs
      rcases hbI with hI | hI
      · rw [htop0 hI] at e3 e4
        rw [hI] at q3
        rw [e4] at q6
        have d3 : (x.s == (done : Int)) = true := by rw [e3]; simp
        clear htop0 htop1 q7
        have H_hI := Lib.hid hI; clear hI; have H_e2 := Lib.hid e2; clear e2; have H_e3 := Lib.hid e3; clear e3; have H_e4 := Lib.hid e4; clear e4; have H_q2 := Lib.hid q2; clear q2; have H_q3 := Lib.hid q3; clear q3; have H_q6 := Lib.hid q6; clear q6; have H_hinv := Lib.hid hinv; clear hinv; have H_hbw := Lib.hid hbw; clear hbw; have H_hb4 := Lib.hid hb4; clear hb4; have H_hb6 := Lib.hid hb6; clear hb6; have H_hX := Lib.hid hX; clear hX; have H_hY := Lib.hid hY; clear hY; have H_hE := Lib.hid hE; clear hE; have H_hpX := Lib.hid hpX; clear hpX; have H_hpY := Lib.hid hpY; clear hpY; have H_hLb := Lib.hid hLb; clear hLb; have H_hcL := Lib.hid hcL; clear hcL; have H_hT := Lib.hid hT; clear hT; have H_hR := Lib.hid hR; clear hR; have H_bbr := Lib.hid bbr; clear bbr; have H_tr := Lib.hid tr; clear tr; have H_gr := Lib.hid gr; clear gr; have H_vr := Lib.hid vr; clear vr; have H_xr := Lib.hid xr; clear xr; have H_yr := Lib.hid yr; clear yr; have H_er := Lib.hid er; clear er; have H_ix := Lib.hid ix; clear ix; have H_iy := Lib.hid iy; clear iy; have H_hrl := Lib.hid hrl; clear hrl
        have g0 := (H_gr.out 0 _ rfl).at
        have g1 := (H_gr.out 1 _ rfl).at
        have g2 := (H_gr.out 2 _ rfl).at
        have g3 := (H_gr.out 3 _ rfl).at
        have g4 := (H_gr.out 4 _ rfl).at
        have g5 := (H_gr.out 5 _ rfl).at
        have g6 := (H_gr.out 6 _ rfl).at
        have g7 := (H_gr.out 7 _ rfl).at
        go_wp2_with fail
        (with_reducible refine (H_q3.out _ ?_ ?_ ?_).mono ?_)
        · exact H_xr.out.below (show Below wr.heap.size wr _ by (repeat (first | with_reducible exact Below.refl _ _ | with_reducible exact Nat.le_refl _ | with_reducible assumption | with_reducible refine Below.drew ?_ | with_reducible refine below_drewN ?_ _ | with_reducible refine Below.alloc ?_ ?_ _ | with_reducible refine Below.setCell ?_ ?_ _ | with_reducible exact And.right (by assumption) | with_reducible refine Below.trans ?_ (Below.mono (by assumption) ?_) | with_reducible exact Below.size (And.right (by assumption)) | (focus omega) | (focus (simp; done)) | (focus (simp; omega)) | (focus (simp at *; omega)))))
        · exact H_yr.out.below (show Below wr.heap.size wr _ by (repeat (first | with_reducible exact Below.refl _ _ | with_reducible exact Nat.le_refl _ | with_reducible assumption | with_reducible refine Below.drew ?_ | with_reducible refine below_drewN ?_ _ | with_reducible refine Below.alloc ?_ ?_ _ | with_reducible refine Below.setCell ?_ ?_ _ | with_reducible exact And.right (by assumption) | with_reducible refine Below.trans ?_ (Below.mono (by assumption) ?_) | with_reducible exact Below.size (And.right (by assumption)) | (focus omega) | (focus (simp; done)) | (focus (simp; omega)) | (focus (simp at *; omega)))))
        · exact H_tr.out.below (show Below wr.heap.size wr _ by (repeat (first | with_reducible exact Below.refl _ _ | with_reducible exact Nat.le_refl _ | with_reducible assumption | with_reducible refine Below.drew ?_ | with_reducible refine below_drewN ?_ _ | with_reducible refine Below.alloc ?_ ?_ _ | with_reducible refine Below.setCell ?_ ?_ _ | with_reducible exact And.right (by assumption) | with_reducible refine Below.trans ?_ (Below.mono (by assumption) ?_) | with_reducible exact Below.size (And.right (by assumption)) | (focus omega) | (focus (simp; done)) | (focus (simp; omega)) | (focus (simp at *; omega)))))
        rintro e w8 ⟨rfl, b8⟩
        have c8 : Below wr.heap.size wr w8 := Below.trans (by (repeat (first | with_reducible exact Below.refl _ _ | with_reducible exact Nat.le_refl _ | with_reducible assumption | with_reducible refine Below.drew ?_ | with_reducible refine below_drewN ?_ _ | with_reducible refine Below.alloc ?_ ?_ _ | with_reducible refine Below.setCell ?_ ?_ _ | with_reducible exact And.right (by assumption) | with_reducible refine Below.trans ?_ (Below.mono (by assumption) ?_) | with_reducible exact Below.size (And.right (by assumption)) | (focus omega) | (focus (simp; done)) | (focus (simp; omega)) | (focus (simp at *; omega))))) (b8.mono (by first | exact Nat.le_refl _ | omega | (simp; done) | (simp; omega)))
        have s8 := c8.size
        have bb8 := H_bbr.out.trans (c8.mono H_bbr.out.size)
        have t8 := H_tr.out.below c8
        have g8 := H_gr.out.below c8
        have v8 := H_vr.out.below c8
        have x8 := H_xr.out.below c8
        have y8 := H_yr.out.below c8
        have e8 := H_er.out.below c8
        have H_b8 := Lib.hid b8; clear b8; have H_c8 := Lib.hid c8; clear c8; have H_bb8 := Lib.hid bb8; clear bb8; have H_t8 := Lib.hid t8; clear t8; have H_g8 := Lib.hid g8; clear g8; have H_v8 := Lib.hid v8; clear v8; have H_x8 := Lib.hid x8; clear x8; have H_y8 := Lib.hid y8; clear y8; have H_e8 := Lib.hid e8; clear e8
        clear g0 g1 g2 g3 g4 g5 g6 g7
        have g0 := (H_g8.out 0 _ rfl).at
        have g1 := (H_g8.out 1 _ rfl).at
        have g2 := (H_g8.out 2 _ rfl).at
        have g3 := (H_g8.out 3 _ rfl).at
        have g4 := (H_g8.out 4 _ rfl).at
        have g5 := (H_g8.out 5 _ rfl).at
        have g6 := (H_g8.out 6 _ rfl).at
        have g7 := (H_g8.out 7 _ rfl).at
        have v0 := (H_v8.out 0 _ rfl).at
        have v1 := (H_v8.out 1 _ rfl).at
        have v2 := (H_v8.out 2 _ rfl).at
        have lg := (H_g8.out 0 _ rfl).lt; have lv := (H_v8.out 0 _ rfl).lt
        go_wp2_with fail
        refine wp_region_held_drew (S := (fun W => (∀ b o, b < w8.heap.size → W.cell? ⟨b, o, none⟩ = w8.cell? ⟨b, o, none⟩) ∧ Below w8.heap.size w8 W)) (by kernel_rfl) ?_ (fun hHeld => ?_)
        · (try dsimp only); (first | (refine ext_mk ?_; (repeat (first | with_reducible exact Below.refl _ _ | with_reducible exact Nat.le_refl _ | with_reducible assumption | with_reducible refine Below.drew ?_ | with_reducible refine below_drewN ?_ _ | with_reducible refine Below.alloc ?_ ?_ _ | with_reducible refine Below.setCell ?_ ?_ _ | with_reducible exact And.right (by assumption) | with_reducible refine Below.trans ?_ (Below.mono (by assumption) ?_) | with_reducible exact Below.size (And.right (by assumption)) | (focus omega) | (focus (simp; done)) | (focus (simp; omega)) | (focus (simp at *; omega))))))
        refine take_at (i := 0) (some 76) rfl rfl (by kernel_rfl) (fun _ _ _ h => h) (by rfl) (v := ?_) ?_ (by assumption) ?_
        rotate_left
        · intro W hSw; (try dsimp only at hSw); go_simp; (try with_reducible rfl)
        (try simp only [Act.put, List.setIfInBounds_toArray, List.set_cons_zero, List.set_cons_succ])
        refine take_at (i := 1) (some 77) rfl rfl (by kernel_rfl) (fun _ _ _ h => h) (by rfl) (v := ?_) ?_ (by assumption) ?_
        rotate_left
        · intro W hSw; (try dsimp only at hSw); go_simp; (try with_reducible rfl)
        (try simp only [Act.put, List.setIfInBounds_toArray, List.set_cons_zero, List.set_cons_succ])
        refine take_at (i := 2) (some 78) rfl rfl (by kernel_rfl) (fun _ _ _ h => h) (by rfl) (v := ?_) ?_ (by assumption) ?_
        rotate_left
        · intro W hSw; (try dsimp only at hSw); go_simp; (try with_reducible rfl)
        (try simp only [Act.put, List.setIfInBounds_toArray, List.set_cons_zero, List.set_cons_succ])
        refine take_at (i := 3) (some 79) rfl rfl (by kernel_rfl) (fun _ _ _ h => h) (by rfl) (v := ?_) ?_ (by assumption) ?_
        rotate_left
        · intro W hSw; (try dsimp only at hSw); go_simp; (try with_reducible rfl)
        (try simp only [Act.put, List.setIfInBounds_toArray, List.set_cons_zero, List.set_cons_succ])
        refine take_at (i := 4) (some 80) rfl rfl (by kernel_rfl) (fun _ _ _ h => h) (by rfl) (v := ?_) ?_ (by assumption) ?_
        rotate_left
        · intro W hSw; (try dsimp only at hSw); go_simp; (try with_reducible rfl)
        (try simp only [Act.put, List.setIfInBounds_toArray, List.set_cons_zero, List.set_cons_succ])
        refine take_at (i := 5) (some 81) rfl rfl (by kernel_rfl) (fun _ _ _ h => h) (by rfl) (v := ?_) ?_ (by assumption) ?_
        rotate_left
        · intro W hSw; (try dsimp only at hSw); go_simp; (try with_reducible rfl)
        (try simp only [Act.put, List.setIfInBounds_toArray, List.set_cons_zero, List.set_cons_succ])
        refine take_at (i := 6) (some 82) rfl rfl (by kernel_rfl) (fun _ _ _ h => h) (by rfl) (v := ?_) ?_ (by assumption) ?_
        rotate_left
        · intro W hSw; (try dsimp only at hSw); go_simp; (try with_reducible rfl)
        (try simp only [Act.put, List.setIfInBounds_toArray, List.set_cons_zero, List.set_cons_succ])
        refine take_at (i := 7) (some 83) rfl rfl (by kernel_rfl) (fun _ _ _ h => h) (by rfl) (v := ?_) ?_ (by assumption) ?_
        rotate_left
        · intro W hSw; (try dsimp only at hSw); go_simp; (try with_reducible rfl)
        (try simp only [Act.put, List.setIfInBounds_toArray, List.set_cons_zero, List.set_cons_succ])
        refine take_at (i := 8) (some 84) rfl rfl (by kernel_rfl) (fun _ _ _ h => h) (by rfl) (v := ?_) ?_ (by assumption) ?_
        rotate_left
        · intro W hSw; (try dsimp only at hSw); go_simp; (try with_reducible rfl)
        (try simp only [Act.put, List.setIfInBounds_toArray, List.set_cons_zero, List.set_cons_succ])
        refine take_at (i := 9) (some 85) rfl rfl (by kernel_rfl) (fun _ _ _ h => h) (by rfl) (v := ?_) ?_ (by assumption) ?_
        rotate_left
        · intro W hSw; (try dsimp only at hSw); go_simp; (try with_reducible rfl)
        (try simp only [Act.put, List.setIfInBounds_toArray, List.set_cons_zero, List.set_cons_succ])
        refine take_at (i := 10) (some 86) rfl rfl (by kernel_rfl) (fun _ _ _ h => h) (by rfl) (v := ?_) ?_ (by assumption) ?_
        rotate_left
        · intro W hSw; (try dsimp only at hSw); go_simp; (try with_reducible rfl)
        (try simp only [Act.put, List.setIfInBounds_toArray, List.set_cons_zero, List.set_cons_succ])
        refine take_at (i := 11) (some 87) rfl rfl (by kernel_rfl) (fun _ _ _ h => h) (by rfl) (v := ?_) ?_ (by assumption) ?_
        rotate_left
        · intro W hSw; (try dsimp only at hSw); go_simp; (try with_reducible rfl)
        (try simp only [Act.put, List.setIfInBounds_toArray, List.set_cons_zero, List.set_cons_succ])
        refine take_at (i := 12) (some 88) rfl rfl (by kernel_rfl) (fun _ _ _ h => h) (by rfl) (v := ?_) ?_ (by assumption) ?_
        rotate_left
        · intro W hSw; (try dsimp only at hSw); go_simp; (try with_reducible rfl)
        (try simp only [Act.put, List.setIfInBounds_toArray, List.set_cons_zero, List.set_cons_succ])
        refine take_at (i := 13) (some 89) rfl rfl (by kernel_rfl) (fun _ _ _ h => h) (by rfl) (v := ?_) ?_ (by assumption) ?_
        rotate_left
        · intro W hSw; (try dsimp only at hSw); go_simp; (try with_reducible rfl)
        (try simp only [Act.put, List.setIfInBounds_toArray, List.set_cons_zero, List.set_cons_succ])
        refine take_at (i := 14) (some 90) rfl rfl (by kernel_rfl) (fun _ _ _ h => h) (by rfl) (v := ?_) ?_ (by assumption) ?_
        rotate_left
        · intro W hSw; (try dsimp only at hSw); go_simp; (try with_reducible rfl)
        (try simp only [Act.put, List.setIfInBounds_toArray, List.set_cons_zero, List.set_cons_succ])
        refine take_at (i := 15) (some 91) rfl rfl (by kernel_rfl) (fun _ _ _ h => h) (by rfl) (v := ?_) ?_ (by assumption) ?_
        rotate_left
        · intro W hSw; (try dsimp only at hSw); go_simp; (try with_reducible rfl)
        (try simp only [Act.put, List.setIfInBounds_toArray, List.set_cons_zero, List.set_cons_succ])
        refine take_at (i := 16) (some 92) rfl rfl (by kernel_rfl) (fun _ _ _ h => h) (by rfl) (v := ?_) ?_ (by assumption) ?_
        rotate_left
        · intro W hSw; (try dsimp only at hSw); go_simp; (try with_reducible rfl)
        (try simp only [Act.put, List.setIfInBounds_toArray, List.set_cons_zero, List.set_cons_succ])
        refine take_at (i := 17) (some 93) rfl rfl (by kernel_rfl) (fun _ _ _ h => h) (by rfl) (v := ?_) ?_ (by assumption) ?_
        rotate_left
        · intro W hSw; (try dsimp only at hSw); go_simp; (try with_reducible rfl)
        (try simp only [Act.put, List.setIfInBounds_toArray, List.set_cons_zero, List.set_cons_succ])
        refine wpAnyH_ready (rs := [18]) (by kernel_rfl) (by simp) ?_
        refine AllReadyH.cons rfl (fun K hK => ?_) AllReadyH.nil
        go_simp
        (first | (go_at_call 43; (with_reducible refine (H_q2.out _ ?_).mono ?_); (focus (exact H_e8.out.below (And.right (by assumption : _ ∧ Below w8.heap.size w8 _)))); rintro e w9 ⟨R, cr, rfl, hoR, hbw9⟩; have gw9 := Below.trans (And.right (by assumption : _ ∧ Below w8.heap.size w8 _)) (hbw9.mono (Below.size (And.right (by assumption : _ ∧ Below w8.heap.size w8 _)))); have gsw9 := gw9.size; have hcf := bcell hbw9; have hcw9 := hcf.1; have hfw9 := hcf.2; have hsw9 := hbw9.size; (try simp only [World.size_alloc, World.heap_drewN, heap_drew] at hsw9); clear hbw9 hcf; (try have hzw9 : w8.heap.size < w9.heap.size := by omega)) | (go_at_call 42; (with_reducible refine (H_q6.out _ R cr ?_ ?_).mono ?_); (focus (exact H_x8.out.below (And.right (by assumption : _ ∧ Below w8.heap.size w8 _)))); (focus (exact hoR.ints)); rintro e w10 ⟨rfl, hbw10⟩; have gw10 := Below.trans (And.right (by assumption : _ ∧ Below w8.heap.size w8 _)) (hbw10.mono (Below.size (And.right (by assumption : _ ∧ Below w8.heap.size w8 _)))); have gsw10 := gw10.size; have hcf := bcell hbw10; have hcw10 := hcf.1; have hfw10 := hcf.2; have hsw10 := hbw10.size; (try simp only [World.size_alloc, World.heap_drewN, heap_drew] at hsw10); clear hbw10 hcf; (try have hzw10 : w8.heap.size < w10.heap.size := by omega)))
        refine hK.out _ _ ?_ (fun hHeld => ?_)
        · (try dsimp only); (first | (refine ext_mk ?_; (repeat (first | with_reducible exact Below.refl _ _ | with_reducible exact Nat.le_refl _ | with_reducible assumption | with_reducible refine Below.drew ?_ | with_reducible refine below_drewN ?_ _ | with_reducible refine Below.alloc ?_ ?_ _ | with_reducible refine Below.setCell ?_ ?_ _ | with_reducible exact And.right (by assumption) | with_reducible refine Below.trans ?_ (Below.mono (by assumption) ?_) | with_reducible exact Below.size (And.right (by assumption)) | (focus omega) | (focus (simp; done)) | (focus (simp; omega)) | (focus (simp at *; omega))))))
        clear hK K
        (try simp only [Act.put, List.setIfInBounds_toArray, List.set_cons_zero, List.set_cons_succ])
        refine wpAnyH_ready (rs := [19]) (by kernel_rfl) (by simp) ?_
        refine AllReadyH.cons rfl (fun K hK => ?_) AllReadyH.nil
        go_simp
        (first | (go_at_call 43; (with_reducible refine (H_q2.out _ ?_).mono ?_); (focus (exact H_e8.out.below (And.right (by assumption : _ ∧ Below w8.heap.size w8 _)))); rintro e w9 ⟨R, cr, rfl, hoR, hbw9⟩; have gw9 := Below.trans (And.right (by assumption : _ ∧ Below w8.heap.size w8 _)) (hbw9.mono (Below.size (And.right (by assumption : _ ∧ Below w8.heap.size w8 _)))); have gsw9 := gw9.size; have hcf := bcell hbw9; have hcw9 := hcf.1; have hfw9 := hcf.2; have hsw9 := hbw9.size; (try simp only [World.size_alloc, World.heap_drewN, heap_drew] at hsw9); clear hbw9 hcf; (try have hzw9 : w8.heap.size < w9.heap.size := by omega)) | (go_at_call 42; (with_reducible refine (H_q6.out _ R cr ?_ ?_).mono ?_); (focus (exact H_x8.out.below (And.right (by assumption : _ ∧ Below w8.heap.size w8 _)))); (focus (exact hoR.ints)); rintro e w10 ⟨rfl, hbw10⟩; have gw10 := Below.trans (And.right (by assumption : _ ∧ Below w8.heap.size w8 _)) (hbw10.mono (Below.size (And.right (by assumption : _ ∧ Below w8.heap.size w8 _)))); have gsw10 := gw10.size; have hcf := bcell hbw10; have hcw10 := hcf.1; have hfw10 := hcf.2; have hsw10 := hbw10.size; (try simp only [World.size_alloc, World.heap_drewN, heap_drew] at hsw10); clear hbw10 hcf; (try have hzw10 : w8.heap.size < w10.heap.size := by omega)))
        refine hK.out _ _ ?_ (fun hHeld => ?_)
        · (try dsimp only); (first | (refine ext_mk ?_; (repeat (first | with_reducible exact Below.refl _ _ | with_reducible exact Nat.le_refl _ | with_reducible assumption | with_reducible refine Below.drew ?_ | with_reducible refine below_drewN ?_ _ | with_reducible refine Below.alloc ?_ ?_ _ | with_reducible refine Below.setCell ?_ ?_ _ | with_reducible exact And.right (by assumption) | with_reducible refine Below.trans ?_ (Below.mono (by assumption) ?_) | with_reducible exact Below.size (And.right (by assumption)) | (focus omega) | (focus (simp; done)) | (focus (simp; omega)) | (focus (simp at *; omega))))))
        clear hK K
        (try simp only [Act.put, List.setIfInBounds_toArray, List.set_cons_zero, List.set_cons_succ])
        refine take_at (i := 20) (some 96) rfl rfl (by kernel_rfl) (fun _ _ _ h => h) (by rfl) (v := ?_) ?_ (by assumption) ?_
        rotate_left
        · intro W hSw; (try dsimp only at hSw); go_simp; (try with_reducible rfl)
        (try simp only [Act.put, List.setIfInBounds_toArray, List.set_cons_zero, List.set_cons_succ])
        refine wpAnyH_ready (rs := [21]) (by kernel_rfl) (by simp) ?_
        refine AllReadyH.cons rfl (fun K hK => ?_) AllReadyH.nil
        go_simp
        refine hK.out _ _ ?_ (fun hHeld => ?_)
        · (try dsimp only); (first | (refine ext_mk ?_; (repeat (first | with_reducible exact Below.refl _ _ | with_reducible exact Nat.le_refl _ | with_reducible assumption | with_reducible refine Below.drew ?_ | with_reducible refine below_drewN ?_ _ | with_reducible refine Below.alloc ?_ ?_ _ | with_reducible refine Below.setCell ?_ ?_ _ | with_reducible exact And.right (by assumption) | with_reducible refine Below.trans ?_ (Below.mono (by assumption) ?_) | with_reducible exact Below.size (And.right (by assumption)) | (focus omega) | (focus (simp; done)) | (focus (simp; omega)) | (focus (simp at *; omega))))))
        clear hK K
        (try simp only [Act.put, List.setIfInBounds_toArray, List.set_cons_zero, List.set_cons_succ])
        refine wpAnyH_done (by kernel_rfl) ?_ _
        have gF : Below w8.heap.size w8 _ := And.right (by assumption)
        go_wp2_with fail
        go_ret
        exact ⟨rfl, H_bb8.out.trans (gF.mono H_bb8.out.size)⟩
      · rw [htop1 hI] at e3 e4
        rw [hI] at q3
        rw [e4] at q7
        have d3 : (y.s == (done : Int)) = true := by rw [e3]; simp
        clear htop0 htop1 q6
        have H_hI := Lib.hid hI; clear hI; have H_e2 := Lib.hid e2; clear e2; have H_e3 := Lib.hid e3; clear e3; have H_e4 := Lib.hid e4; clear e4; have H_q2 := Lib.hid q2; clear q2; have H_q3 := Lib.hid q3; clear q3; have H_q7 := Lib.hid q7; clear q7; have H_hinv := Lib.hid hinv; clear hinv; have H_hbw := Lib.hid hbw; clear hbw; have H_hb4 := Lib.hid hb4; clear hb4; have H_hb6 := Lib.hid hb6; clear hb6; have H_hX := Lib.hid hX; clear hX; have H_hY := Lib.hid hY; clear hY; have H_hE := Lib.hid hE; clear hE; have H_hpX := Lib.hid hpX; clear hpX; have H_hpY := Lib.hid hpY; clear hpY; have H_hLb := Lib.hid hLb; clear hLb; have H_hcL := Lib.hid hcL; clear hcL; have H_hT := Lib.hid hT; clear hT; have H_hR := Lib.hid hR; clear hR; have H_bbr := Lib.hid bbr; clear bbr; have H_tr := Lib.hid tr; clear tr; have H_gr := Lib.hid gr; clear gr; have H_vr := Lib.hid vr; clear vr; have H_xr := Lib.hid xr; clear xr; have H_yr := Lib.hid yr; clear yr; have H_er := Lib.hid er; clear er; have H_ix := Lib.hid ix; clear ix; have H_iy := Lib.hid iy; clear iy; have H_hrl := Lib.hid hrl; clear hrl
        have g0 := (H_gr.out 0 _ rfl).at
        have g1 := (H_gr.out 1 _ rfl).at
        have g2 := (H_gr.out 2 _ rfl).at
        have g3 := (H_gr.out 3 _ rfl).at
        have g4 := (H_gr.out 4 _ rfl).at
        have g5 := (H_gr.out 5 _ rfl).at
        have g6 := (H_gr.out 6 _ rfl).at
        have g7 := (H_gr.out 7 _ rfl).at
        go_wp2_with fail
        (with_reducible refine (H_q3.out _ ?_ ?_ ?_).mono ?_)
        · exact H_xr.out.below (show Below wr.heap.size wr _ by (repeat (first | with_reducible exact Below.refl _ _ | with_reducible exact Nat.le_refl _ | with_reducible assumption | with_reducible refine Below.drew ?_ | with_reducible refine below_drewN ?_ _ | with_reducible refine Below.alloc ?_ ?_ _ | with_reducible refine Below.setCell ?_ ?_ _ | with_reducible exact And.right (by assumption) | with_reducible refine Below.trans ?_ (Below.mono (by assumption) ?_) | with_reducible exact Below.size (And.right (by assumption)) | (focus omega) | (focus (simp; done)) | (focus (simp; omega)) | (focus (simp at *; omega)))))
        · exact H_yr.out.below (show Below wr.heap.size wr _ by (repeat (first | with_reducible exact Below.refl _ _ | with_reducible exact Nat.le_refl _ | with_reducible assumption | with_reducible refine Below.drew ?_ | with_reducible refine below_drewN ?_ _ | with_reducible refine Below.alloc ?_ ?_ _ | with_reducible refine Below.setCell ?_ ?_ _ | with_reducible exact And.right (by assumption) | with_reducible refine Below.trans ?_ (Below.mono (by assumption) ?_) | with_reducible exact Below.size (And.right (by assumption)) | (focus omega) | (focus (simp; done)) | (focus (simp; omega)) | (focus (simp at *; omega)))))
        · exact H_tr.out.below (show Below wr.heap.size wr _ by (repeat (first | with_reducible exact Below.refl _ _ | with_reducible exact Nat.le_refl _ | with_reducible assumption | with_reducible refine Below.drew ?_ | with_reducible refine below_drewN ?_ _ | with_reducible refine Below.alloc ?_ ?_ _ | with_reducible refine Below.setCell ?_ ?_ _ | with_reducible exact And.right (by assumption) | with_reducible refine Below.trans ?_ (Below.mono (by assumption) ?_) | with_reducible exact Below.size (And.right (by assumption)) | (focus omega) | (focus (simp; done)) | (focus (simp; omega)) | (focus (simp at *; omega)))))
        rintro e w8 ⟨rfl, b8⟩
        have c8 : Below wr.heap.size wr w8 := Below.trans (by (repeat (first | with_reducible exact Below.refl _ _ | with_reducible exact Nat.le_refl _ | with_reducible assumption | with_reducible refine Below.drew ?_ | with_reducible refine below_drewN ?_ _ | with_reducible refine Below.alloc ?_ ?_ _ | with_reducible refine Below.setCell ?_ ?_ _ | with_reducible exact And.right (by assumption) | with_reducible refine Below.trans ?_ (Below.mono (by assumption) ?_) | with_reducible exact Below.size (And.right (by assumption)) | (focus omega) | (focus (simp; done)) | (focus (simp; omega)) | (focus (simp at *; omega))))) (b8.mono (by first | exact Nat.le_refl _ | omega | (simp; done) | (simp; omega)))
        have s8 := c8.size
        have bb8 := H_bbr.out.trans (c8.mono H_bbr.out.size)
        have t8 := H_tr.out.below c8
        have g8 := H_gr.out.below c8
        have v8 := H_vr.out.below c8
        have x8 := H_xr.out.below c8
        have y8 := H_yr.out.below c8
        have e8 := H_er.out.below c8
        have H_b8 := Lib.hid b8; clear b8; have H_c8 := Lib.hid c8; clear c8; have H_bb8 := Lib.hid bb8; clear bb8; have H_t8 := Lib.hid t8; clear t8; have H_g8 := Lib.hid g8; clear g8; have H_v8 := Lib.hid v8; clear v8; have H_x8 := Lib.hid x8; clear x8; have H_y8 := Lib.hid y8; clear y8; have H_e8 := Lib.hid e8; clear e8
        clear g0 g1 g2 g3 g4 g5 g6 g7
        have g0 := (H_g8.out 0 _ rfl).at
        have g1 := (H_g8.out 1 _ rfl).at
        have g2 := (H_g8.out 2 _ rfl).at
        have g3 := (H_g8.out 3 _ rfl).at
        have g4 := (H_g8.out 4 _ rfl).at
        have g5 := (H_g8.out 5 _ rfl).at
        have g6 := (H_g8.out 6 _ rfl).at
        have g7 := (H_g8.out 7 _ rfl).at
        have v0 := (H_v8.out 0 _ rfl).at
        have v1 := (H_v8.out 1 _ rfl).at
        have v2 := (H_v8.out 2 _ rfl).at
        have lg := (H_g8.out 0 _ rfl).lt; have lv := (H_v8.out 0 _ rfl).lt
        go_wp2_with fail
        refine wp_region_held_drew (S := (fun W => (∀ b o, b < w8.heap.size → W.cell? ⟨b, o, none⟩ = w8.cell? ⟨b, o, none⟩) ∧ Below w8.heap.size w8 W)) (by kernel_rfl) ?_ (fun hHeld => ?_)
        · (try dsimp only); (first | (refine ext_mk ?_; (repeat (first | with_reducible exact Below.refl _ _ | with_reducible exact Nat.le_refl _ | with_reducible assumption | with_reducible refine Below.drew ?_ | with_reducible refine below_drewN ?_ _ | with_reducible refine Below.alloc ?_ ?_ _ | with_reducible refine Below.setCell ?_ ?_ _ | with_reducible exact And.right (by assumption) | with_reducible refine Below.trans ?_ (Below.mono (by assumption) ?_) | with_reducible exact Below.size (And.right (by assumption)) | (focus omega) | (focus (simp; done)) | (focus (simp; omega)) | (focus (simp at *; omega))))))
        refine take_at (i := 0) (some 76) rfl rfl (by kernel_rfl) (fun _ _ _ h => h) (by rfl) (v := ?_) ?_ (by assumption) ?_
        rotate_left
        · intro W hSw; (try dsimp only at hSw); go_simp; (try with_reducible rfl)
        (try simp only [Act.put, List.setIfInBounds_toArray, List.set_cons_zero, List.set_cons_succ])
        refine take_at (i := 1) (some 77) rfl rfl (by kernel_rfl) (fun _ _ _ h => h) (by rfl) (v := ?_) ?_ (by assumption) ?_
        rotate_left
        · intro W hSw; (try dsimp only at hSw); go_simp; (try with_reducible rfl)
        (try simp only [Act.put, List.setIfInBounds_toArray, List.set_cons_zero, List.set_cons_succ])
        refine take_at (i := 2) (some 78) rfl rfl (by kernel_rfl) (fun _ _ _ h => h) (by rfl) (v := ?_) ?_ (by assumption) ?_
        rotate_left
        · intro W hSw; (try dsimp only at hSw); go_simp; (try with_reducible rfl)
        (try simp only [Act.put, List.setIfInBounds_toArray, List.set_cons_zero, List.set_cons_succ])
        refine take_at (i := 3) (some 79) rfl rfl (by kernel_rfl) (fun _ _ _ h => h) (by rfl) (v := ?_) ?_ (by assumption) ?_
        rotate_left
        · intro W hSw; (try dsimp only at hSw); go_simp; (try with_reducible rfl)
        (try simp only [Act.put, List.setIfInBounds_toArray, List.set_cons_zero, List.set_cons_succ])
        refine take_at (i := 4) (some 80) rfl rfl (by kernel_rfl) (fun _ _ _ h => h) (by rfl) (v := ?_) ?_ (by assumption) ?_
        rotate_left
        · intro W hSw; (try dsimp only at hSw); go_simp; (try with_reducible rfl)
        (try simp only [Act.put, List.setIfInBounds_toArray, List.set_cons_zero, List.set_cons_succ])
        refine take_at (i := 5) (some 81) rfl rfl (by kernel_rfl) (fun _ _ _ h => h) (by rfl) (v := ?_) ?_ (by assumption) ?_
        rotate_left
        · intro W hSw; (try dsimp only at hSw); go_simp; (try with_reducible rfl)
        (try simp only [Act.put, List.setIfInBounds_toArray, List.set_cons_zero, List.set_cons_succ])
        refine take_at (i := 6) (some 82) rfl rfl (by kernel_rfl) (fun _ _ _ h => h) (by rfl) (v := ?_) ?_ (by assumption) ?_
        rotate_left
        · intro W hSw; (try dsimp only at hSw); go_simp; (try with_reducible rfl)
        (try simp only [Act.put, List.setIfInBounds_toArray, List.set_cons_zero, List.set_cons_succ])
        refine take_at (i := 7) (some 83) rfl rfl (by kernel_rfl) (fun _ _ _ h => h) (by rfl) (v := ?_) ?_ (by assumption) ?_
        rotate_left
        · intro W hSw; (try dsimp only at hSw); go_simp; (try with_reducible rfl)
        (try simp only [Act.put, List.setIfInBounds_toArray, List.set_cons_zero, List.set_cons_succ])
        refine take_at (i := 8) (some 84) rfl rfl (by kernel_rfl) (fun _ _ _ h => h) (by rfl) (v := ?_) ?_ (by assumption) ?_
        rotate_left
        · intro W hSw; (try dsimp only at hSw); go_simp; (try with_reducible rfl)
        (try simp only [Act.put, List.setIfInBounds_toArray, List.set_cons_zero, List.set_cons_succ])
        refine take_at (i := 9) (some 85) rfl rfl (by kernel_rfl) (fun _ _ _ h => h) (by rfl) (v := ?_) ?_ (by assumption) ?_
        rotate_left
        · intro W hSw; (try dsimp only at hSw); go_simp; (try with_reducible rfl)
        (try simp only [Act.put, List.setIfInBounds_toArray, List.set_cons_zero, List.set_cons_succ])
        refine take_at (i := 10) (some 86) rfl rfl (by kernel_rfl) (fun _ _ _ h => h) (by rfl) (v := ?_) ?_ (by assumption) ?_
        rotate_left
        · intro W hSw; (try dsimp only at hSw); go_simp; (try with_reducible rfl)
        (try simp only [Act.put, List.setIfInBounds_toArray, List.set_cons_zero, List.set_cons_succ])
        refine take_at (i := 11) (some 87) rfl rfl (by kernel_rfl) (fun _ _ _ h => h) (by rfl) (v := ?_) ?_ (by assumption) ?_
        rotate_left
        · intro W hSw; (try dsimp only at hSw); go_simp; (try with_reducible rfl)
        (try simp only [Act.put, List.setIfInBounds_toArray, List.set_cons_zero, List.set_cons_succ])
        refine take_at (i := 12) (some 88) rfl rfl (by kernel_rfl) (fun _ _ _ h => h) (by rfl) (v := ?_) ?_ (by assumption) ?_
        rotate_left
        · intro W hSw; (try dsimp only at hSw); go_simp; (try with_reducible rfl)
        (try simp only [Act.put, List.setIfInBounds_toArray, List.set_cons_zero, List.set_cons_succ])
        refine take_at (i := 13) (some 89) rfl rfl (by kernel_rfl) (fun _ _ _ h => h) (by rfl) (v := ?_) ?_ (by assumption) ?_
        rotate_left
        · intro W hSw; (try dsimp only at hSw); go_simp; (try with_reducible rfl)
        (try simp only [Act.put, List.setIfInBounds_toArray, List.set_cons_zero, List.set_cons_succ])
        refine take_at (i := 14) (some 90) rfl rfl (by kernel_rfl) (fun _ _ _ h => h) (by rfl) (v := ?_) ?_ (by assumption) ?_
        rotate_left
        · intro W hSw; (try dsimp only at hSw); go_simp; (try with_reducible rfl)
        (try simp only [Act.put, List.setIfInBounds_toArray, List.set_cons_zero, List.set_cons_succ])
        refine take_at (i := 15) (some 91) rfl rfl (by kernel_rfl) (fun _ _ _ h => h) (by rfl) (v := ?_) ?_ (by assumption) ?_
        rotate_left
        · intro W hSw; (try dsimp only at hSw); go_simp; (try with_reducible rfl)
        (try simp only [Act.put, List.setIfInBounds_toArray, List.set_cons_zero, List.set_cons_succ])
        refine take_at (i := 16) (some 92) rfl rfl (by kernel_rfl) (fun _ _ _ h => h) (by rfl) (v := ?_) ?_ (by assumption) ?_
        rotate_left
        · intro W hSw; (try dsimp only at hSw); go_simp; (try with_reducible rfl)
        (try simp only [Act.put, List.setIfInBounds_toArray, List.set_cons_zero, List.set_cons_succ])
        refine take_at (i := 17) (some 93) rfl rfl (by kernel_rfl) (fun _ _ _ h => h) (by rfl) (v := ?_) ?_ (by assumption) ?_
        rotate_left
        · intro W hSw; (try dsimp only at hSw); go_simp; (try with_reducible rfl)
        (try simp only [Act.put, List.setIfInBounds_toArray, List.set_cons_zero, List.set_cons_succ])
        refine wpAnyH_ready (rs := [18]) (by kernel_rfl) (by simp) ?_
        refine AllReadyH.cons rfl (fun K hK => ?_) AllReadyH.nil
        go_simp
        (first | (go_at_call 43; (with_reducible refine (H_q2.out _ ?_).mono ?_); (focus (exact H_e8.out.below (And.right (by assumption : _ ∧ Below w8.heap.size w8 _)))); rintro e w9 ⟨R, cr, rfl, hoR, hbw9⟩; have gw9 := Below.trans (And.right (by assumption : _ ∧ Below w8.heap.size w8 _)) (hbw9.mono (Below.size (And.right (by assumption : _ ∧ Below w8.heap.size w8 _)))); have gsw9 := gw9.size; have hcf := bcell hbw9; have hcw9 := hcf.1; have hfw9 := hcf.2; have hsw9 := hbw9.size; (try simp only [World.size_alloc, World.heap_drewN, heap_drew] at hsw9); clear hbw9 hcf; (try have hzw9 : w8.heap.size < w9.heap.size := by omega)) | (go_at_call 42; (with_reducible refine (H_q7.out _ R cr ?_ ?_).mono ?_); (focus (exact H_y8.out.below (And.right (by assumption : _ ∧ Below w8.heap.size w8 _)))); (focus (exact hoR.ints)); rintro e w10 ⟨rfl, hbw10⟩; have gw10 := Below.trans (And.right (by assumption : _ ∧ Below w8.heap.size w8 _)) (hbw10.mono (Below.size (And.right (by assumption : _ ∧ Below w8.heap.size w8 _)))); have gsw10 := gw10.size; have hcf := bcell hbw10; have hcw10 := hcf.1; have hfw10 := hcf.2; have hsw10 := hbw10.size; (try simp only [World.size_alloc, World.heap_drewN, heap_drew] at hsw10); clear hbw10 hcf; (try have hzw10 : w8.heap.size < w10.heap.size := by omega)))
        refine hK.out _ _ ?_ (fun hHeld => ?_)
        · (try dsimp only); (first | (refine ext_mk ?_; (repeat (first | with_reducible exact Below.refl _ _ | with_reducible exact Nat.le_refl _ | with_reducible assumption | with_reducible refine Below.drew ?_ | with_reducible refine below_drewN ?_ _ | with_reducible refine Below.alloc ?_ ?_ _ | with_reducible refine Below.setCell ?_ ?_ _ | with_reducible exact And.right (by assumption) | with_reducible refine Below.trans ?_ (Below.mono (by assumption) ?_) | with_reducible exact Below.size (And.right (by assumption)) | (focus omega) | (focus (simp; done)) | (focus (simp; omega)) | (focus (simp at *; omega))))))
        clear hK K
        (try simp only [Act.put, List.setIfInBounds_toArray, List.set_cons_zero, List.set_cons_succ])
        refine wpAnyH_ready (rs := [19]) (by kernel_rfl) (by simp) ?_
        refine AllReadyH.cons rfl (fun K hK => ?_) AllReadyH.nil
        go_simp
        (first | (go_at_call 43; (with_reducible refine (H_q2.out _ ?_).mono ?_); (focus (exact H_e8.out.below (And.right (by assumption : _ ∧ Below w8.heap.size w8 _)))); rintro e w9 ⟨R, cr, rfl, hoR, hbw9⟩; have gw9 := Below.trans (And.right (by assumption : _ ∧ Below w8.heap.size w8 _)) (hbw9.mono (Below.size (And.right (by assumption : _ ∧ Below w8.heap.size w8 _)))); have gsw9 := gw9.size; have hcf := bcell hbw9; have hcw9 := hcf.1; have hfw9 := hcf.2; have hsw9 := hbw9.size; (try simp only [World.size_alloc, World.heap_drewN, heap_drew] at hsw9); clear hbw9 hcf; (try have hzw9 : w8.heap.size < w9.heap.size := by omega)) | (go_at_call 42; (with_reducible refine (H_q7.out _ R cr ?_ ?_).mono ?_); (focus (exact H_y8.out.below (And.right (by assumption : _ ∧ Below w8.heap.size w8 _)))); (focus (exact hoR.ints)); rintro e w10 ⟨rfl, hbw10⟩; have gw10 := Below.trans (And.right (by assumption : _ ∧ Below w8.heap.size w8 _)) (hbw10.mono (Below.size (And.right (by assumption : _ ∧ Below w8.heap.size w8 _)))); have gsw10 := gw10.size; have hcf := bcell hbw10; have hcw10 := hcf.1; have hfw10 := hcf.2; have hsw10 := hbw10.size; (try simp only [World.size_alloc, World.heap_drewN, heap_drew] at hsw10); clear hbw10 hcf; (try have hzw10 : w8.heap.size < w10.heap.size := by omega)))
        refine hK.out _ _ ?_ (fun hHeld => ?_)
        · (try dsimp only); (first | (refine ext_mk ?_; (repeat (first | with_reducible exact Below.refl _ _ | with_reducible exact Nat.le_refl _ | with_reducible assumption | with_reducible refine Below.drew ?_ | with_reducible refine below_drewN ?_ _ | with_reducible refine Below.alloc ?_ ?_ _ | with_reducible refine Below.setCell ?_ ?_ _ | with_reducible exact And.right (by assumption) | with_reducible refine Below.trans ?_ (Below.mono (by assumption) ?_) | with_reducible exact Below.size (And.right (by assumption)) | (focus omega) | (focus (simp; done)) | (focus (simp; omega)) | (focus (simp at *; omega))))))
        clear hK K
        (try simp only [Act.put, List.setIfInBounds_toArray, List.set_cons_zero, List.set_cons_succ])
        refine take_at (i := 20) (some 96) rfl rfl (by kernel_rfl) (fun _ _ _ h => h) (by rfl) (v := ?_) ?_ (by assumption) ?_
        rotate_left
        · intro W hSw; (try dsimp only at hSw); go_simp; (try with_reducible rfl)
        (try simp only [Act.put, List.setIfInBounds_toArray, List.set_cons_zero, List.set_cons_succ])
        refine wpAnyH_ready (rs := [21]) (by kernel_rfl) (by simp) ?_
        refine AllReadyH.cons rfl (fun K hK => ?_) AllReadyH.nil
        go_simp
        refine hK.out _ _ ?_ (fun hHeld => ?_)
        · (try dsimp only); (first | (refine ext_mk ?_; (repeat (first | with_reducible exact Below.refl _ _ | with_reducible exact Nat.le_refl _ | with_reducible assumption | with_reducible refine Below.drew ?_ | with_reducible refine below_drewN ?_ _ | with_reducible refine Below.alloc ?_ ?_ _ | with_reducible refine Below.setCell ?_ ?_ _ | with_reducible exact And.right (by assumption) | with_reducible refine Below.trans ?_ (Below.mono (by assumption) ?_) | with_reducible exact Below.size (And.right (by assumption)) | (focus omega) | (focus (simp; done)) | (focus (simp; omega)) | (focus (simp at *; omega))))))
        clear hK K
        (try simp only [Act.put, List.setIfInBounds_toArray, List.set_cons_zero, List.set_cons_succ])
        refine wpAnyH_done (by kernel_rfl) ?_ _
        have gF : Below w8.heap.size w8 _ := And.right (by assumption)
        go_wp2_with fail
        go_ret
        exact ⟨rfl, H_bb8.out.trans (gF.mono H_bb8.out.size)⟩
end Go.Proofs.YtncfilbpgomncaaDoor
