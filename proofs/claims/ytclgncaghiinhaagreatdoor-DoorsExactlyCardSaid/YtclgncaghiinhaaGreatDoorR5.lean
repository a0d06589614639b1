/- The walk of DoorsExactly. -/
import Derived.Test.YtclgncaghiinhaaGreatDoorM1
import Derived.Test.YtclgncaghiinhaaGreatDoorM2
import Derived.Test.YtclgncaghiinhaaGreatDoorM3
import Derived.Test.YtclgncaghiinhaaGreatDoorM4
import Derived.Test.YtclgncaghiinhaaGreatDoorM5
import Derived.Test.YtclgncaghiinhaaGreatDoorM6
import Derived.Test.YtclgncaghiinhaaGreatDoorM7
import Derived.Test.YtclgncaghiinhaaGreatDoorM8
import Derived.Test.YtclgncaghiinhaaGreatDoorM9
import Derived.Test.YtclgncaghiinhaaGreatDoorM10
import Derived.Test.YtclgncaghiinhaaGreatDoorM11
import Derived.Test.YtclgncaghiinhaaGreatDoorM12
import Derived.Test.YtclgncaghiinhaaGreatDoorM13
import Derived.Test.YtclgncaghiinhaaGreatDoorM14
import Derived.Test.YtclgncaghiinhaaGreatDoorM15
import Derived.Test.YtclgncaghiinhaaGreatDoorM16
import Derived.Test.YtclgncaghiinhaaGreatDoorM17
import Derived.Test.YtclgncaghiinhaaGreatDoorM18
import Derived.Test.YtclgncaghiinhaaGreatDoorM19
import Derived.Test.YtclgncaghiinhaaGreatDoorM20
import Derived.Test.YtclgncaghiinhaaGreatDoorM21
import Derived.Test.YtclgncaghiinhaaGreatDoorM22
import Derived.Test.YtclgncaghiinhaaGreatDoorM23
import Derived.Test.YtclgncaghiinhaaGreatDoorM24
import Derived.Test.YtclgncaghiinhaaGreatDoorM25
import Derived.Test.YtclgncaghiinhaaGreatDoorM26
import Derived.Test.YtclgncaghiinhaaGreatDoorM27
import Derived.Test.YtclgncaghiinhaaGreatDoorM28
import Derived.Test.YtclgncaghiinhaaGreatDoorM29
import Derived.Test.YtclgncaghiinhaaGreatDoorM30
import Derived.Test.YtclgncaghiinhaaGreatDoorM31
import Derived.Test.YtclgncaghiinhaaGreatDoorM32
import Derived.Test.YtclgncaghiinhaaGreatDoorM33
import Derived.Test.YtclgncaghiinhaaGreatDoorM34
import Derived.Test.YtclgncaghiinhaaGreatDoorM35
import Derived.Test.YtclgncaghiinhaaGreatDoorM36
import Derived.Test.YtclgncaghiinhaaGreatDoorM37
import Derived.Test.YtclgncaghiinhaaGreatDoorM38
import Derived.Test.YtclgncaghiinhaaGreatDoorM39
import Derived.Test.YtclgncaghiinhaaGreatDoorM40
import Derived.Test.YtclgncaghiinhaaGreatDoorM41
import Derived.Test.YtclgncaghiinhaaGreatDoorM42
import Derived.Test.YtclgncaghiinhaaGreatDoorM43
import Derived.Test.YtclgncaghiinhaaGreatDoorM44
import Derived.Test.YtclgncaghiinhaaGreatDoorM45
import Derived.Test.YtclgncaghiinhaaGreatDoorM46
import Derived.Test.YtclgncaghiinhaaGreatDoorR1
import Derived.Test.YtclgncaghiinhaaGreatDoorR4
set_option linter.unusedSimpArgs false
set_option linter.unusedVariables false
set_option maxRecDepth 100000
namespace Go.Proofs.YtclgncaghiinhaaGreatDoor
open Go.RowKit
set_option maxRecDepth 100000 in
set_option maxHeartbeats 64000000 in
theorem doorsExactly_walk (dr : Int) (X : Option Addr) (cx : Nat) (cs : List Crd) (Y : Option Addr) (cy : Nat) (ts : List Tri) (w0 : World) (hdr : (Lit.int .u8 dr).wf = true) (hcs : Cards w0 X cs) (hcc : cs.length ≤ cx) (hcm : cx ≤ maxLen) (hts : Tris w0 Y ts) (htc : ts.length ≤ cy) (htm : cy ≤ maxLen) (ht : Tab w0) :
    Calls Tryz.prog 4 #[.int .u8 dr, .slice X cs.length cx, .slice Y ts.length cy] w0 fun e w' => e = .returned (.bool true) ∧ Below w0.heap.size w0 w' := by
  unfold maxLen at hcm htm
  have q1 := head38_any w0 ht
  have bb0 := Below.refl w0.heap.size w0
  have hdr2 : 0 ≤ dr ∧ dr ≤ 255 := by rw [Lit.wf_int_iff] at hdr; exact hdr
  obtain ⟨V, hV⟩ : ∃ V : Nat, dr = (V : Int) := ⟨dr.toNat, by omega⟩
  subst hV
  have wv : IntKind.i64.wrap (V : Int) = (V : Int) := IntWalk.i64_in _ (by omega)
  obtain ⟨m, hm⟩ : ∃ n, cs.length = n := ⟨_, rfl⟩
  obtain ⟨k, hk⟩ : ∃ n, ts.length = n := ⟨_, rfl⟩
  rw [hm, hk]
  rw [hm] at hcc
  rw [hk] at htc
  have q2 := fun W (h : Below w0.heap.size w0 W) => rccards_any X cx m cs hm (by omega) W (hcs.below h)
  obtain ⟨x1, h1⟩ : ∃ x, ((m : Int) == 0) = x := ⟨_, rfl⟩
  obtain ⟨x2, h2⟩ : ∃ x, decide ((20 : Int) < (m : Int)) = x := ⟨_, rfl⟩
  obtain ⟨x3, h3⟩ : ∃ x, decide ((20 : Int) < (k : Int)) = x := ⟨_, rfl⟩
  cases x1 with
  | true =>
    have ⟨H_q1, H_q2, H_bb0, H_hcs, H_hts, H_ht, H_hm, H_hk⟩ := hid8 q1 q2 bb0 hcs hts ht hm hk; clear q1 q2 bb0 hcs hts ht hm hk; have H_hdr := Lib.hid hdr; clear hdr
    go_enter Tryz.func4, Tryz.ntmps4
    go_wp2_with fail
    (with_reducible refine (H_q1.out).mono ?_)
    rintro e w1 ⟨rfl, b1⟩
    have c1 : Below w0.heap.size w0 w1 := Below.trans belt (b1.mono omh)
    have s1 := c1.size
    have bb1 := H_bb0.out.trans (c1.mono H_bb0.out.size)
    have ⟨H_b1, H_c1, H_bb1⟩ := hid3 b1 c1 bb1; clear b1 c1 bb1
    go_wp2_with fail
    go_ret
    exact ⟨rfl, H_bb1.out⟩
  | false =>
  cases x2 with
  | true =>
    have ⟨H_q1, H_q2, H_bb0, H_hcs, H_hts, H_ht, H_hm, H_hk⟩ := hid8 q1 q2 bb0 hcs hts ht hm hk; clear q1 q2 bb0 hcs hts ht hm hk; have H_hdr := Lib.hid hdr; clear hdr
    go_enter Tryz.func4, Tryz.ntmps4
    go_wp2_with fail
    (with_reducible refine (H_q1.out).mono ?_)
    rintro e w1 ⟨rfl, b1⟩
    have c1 : Below w0.heap.size w0 w1 := Below.trans belt (b1.mono omh)
    have s1 := c1.size
    have bb1 := H_bb0.out.trans (c1.mono H_bb0.out.size)
    have ⟨H_b1, H_c1, H_bb1⟩ := hid3 b1 c1 bb1; clear b1 c1 bb1
    go_wp2_with fail
    go_ret
    exact ⟨rfl, H_bb1.out⟩
  | false =>
  cases x3 with
  | true =>
    have ⟨H_q1, H_q2, H_bb0, H_hcs, H_hts, H_ht, H_hm, H_hk⟩ := hid8 q1 q2 bb0 hcs hts ht hm hk; clear q1 q2 bb0 hcs hts ht hm hk; have H_hdr := Lib.hid hdr; clear hdr
    go_enter Tryz.func4, Tryz.ntmps4
    go_wp2_with fail
    (with_reducible refine (H_q1.out).mono ?_)
    rintro e w1 ⟨rfl, b1⟩
    have c1 : Below w0.heap.size w0 w1 := Below.trans belt (b1.mono omh)
    have s1 := c1.size
    have bb1 := H_bb0.out.trans (c1.mono H_bb0.out.size)
    have ⟨H_b1, H_c1, H_bb1⟩ := hid3 b1 c1 bb1; clear b1 c1 bb1
    go_wp2_with fail
    go_ret
    exact ⟨rfl, H_bb1.out⟩
  | false =>
  have m0 : 0 < m := by simp at h1; omega
  have m20 : m ≤ 20 := by simp at h2; omega
  have k20 : k ≤ 20 := by simp at h3; omega
  cases hc : cdsB cs with
  | false =>
    rw [hc] at q2
    have ⟨H_q1, H_q2, H_bb0, H_hcs, H_hts, H_ht, H_hm, H_hk⟩ := hid8 q1 q2 bb0 hcs hts ht hm hk; clear q1 q2 bb0 hcs hts ht hm hk; have ⟨H_hdr, H_hc⟩ := hid2 hdr hc; clear hdr hc
    go_enter Tryz.func4, Tryz.ntmps4
    go_wp2_with fail
    (with_reducible refine (H_q1.out).mono ?_)
    rintro e w1 ⟨rfl, b1⟩
    have c1 : Below w0.heap.size w0 w1 := Below.trans belt (b1.mono omh)
    have s1 := c1.size
    have bb1 := H_bb0.out.trans (c1.mono H_bb0.out.size)
    have ⟨H_b1, H_c1, H_bb1⟩ := hid3 b1 c1 bb1; clear b1 c1 bb1
    go_wp2_with fail
    (with_reducible refine (H_q2.out _ ?_).mono ?_)
    · exact H_bb1.out.trans ((show Below w1.heap.size w1 _ from belt).mono H_bb1.out.size)
    rintro e w2 ⟨rfl, b2⟩
    have c2 : Below w1.heap.size w1 w2 := Below.trans belt (b2.mono omh)
    have s2 := c2.size
    have bb2 := H_bb1.out.trans (c2.mono H_bb1.out.size)
    have ⟨H_b2, H_c2, H_bb2⟩ := hid3 b2 c2 bb2; clear b2 c2 bb2
    go_wp2_with fail
    go_ret
    exact ⟨rfl, H_bb2.out⟩
  | true =>
    rw [hc] at q2
    obtain ⟨D, hD⟩ : ∃ D, V % 400 + 1 = D := ⟨_, rfl⟩
    have hDr : (1 : Int) ≤ (D : Int) ∧ (D : Int) ≤ 400 := by have := Nat.mod_lt V (show 0 < 400 by omega); omega
    have hD2 : (1 : Int) + (V : Int) % 400 = (D : Int) := by omega
    have q3 := fun W (h : Below w0.heap.size w0 W) => lnew_any (D : Int) 1024 0 W (ht.below h)
    rw [(nw_nl hDr).1, (nw_nl hDr).2] at q3
    obtain ⟨p1, p2⟩ := exact_plain hDr hc (by omega) (l := ts) (by omega)
    rw [hm] at p1 p2
    have sx : SFit (nl D).x := sfit_made1
    have sy : SFit (nl D).y := sfit_zero
    have nlv := lv_nl hDr
    generalize hL : nl (D : Int) = L at *
    unfold LockErr Lk.cells at q3
    have ⟨H_q1, H_q2, H_q3, H_bb0, H_hcs, H_hts, H_ht, H_hm⟩ := hid8 q1 q2 q3 bb0 hcs hts ht hm; clear q1 q2 q3 bb0 hcs hts ht hm; have ⟨H_hk, H_hdr, H_hc, H_p1, H_p2, H_sx, H_sy, H_hD⟩ := hid8 hk hdr hc p1 p2 sx sy hD; clear hk hdr hc p1 p2 sx sy hD; have ⟨H_hL, H_nlv⟩ := hid2 hL nlv; clear hL nlv
    go_enter Tryz.func4, Tryz.ntmps4
    go_wp2_with fail
    (with_reducible refine (H_q1.out).mono ?_)
    rintro e w1 ⟨rfl, b1⟩
    have c1 : Below w0.heap.size w0 w1 := Below.trans belt (b1.mono omh)
    have s1 := c1.size
    have bb1 := H_bb0.out.trans (c1.mono H_bb0.out.size)
    have ⟨H_b1, H_c1, H_bb1⟩ := hid3 b1 c1 bb1; clear b1 c1 bb1
    go_wp2_with fail
    (with_reducible refine (H_q2.out _ ?_).mono ?_)
    · exact H_bb1.out.trans ((show Below w1.heap.size w1 _ from belt).mono H_bb1.out.size)
    rintro e w2 ⟨rfl, b2⟩
    have c2 : Below w1.heap.size w1 w2 := Below.trans belt (b2.mono omh)
    have s2 := c2.size
    have bb2 := H_bb1.out.trans (c2.mono H_bb1.out.size)
    have ⟨H_b2, H_c2, H_bb2⟩ := hid3 b2 c2 bb2; clear b2 c2 bb2
    go_wp2_with fail
    (with_reducible refine (H_q3.out _ ?_).mono ?_)
    · exact H_bb2.out.trans ((show Below w2.heap.size w2 _ from belt).mono H_bb2.out.size)
    rintro e w3 ⟨A3, p3, B3, n3, rfl, pa3, pb3, b3⟩
    have c3 : Below w2.heap.size w2 w3 := Below.trans belt (b3.mono omh)
    have s3 := c3.size
    have bb3 := H_bb2.out.trans (c3.mono H_bb2.out.size)
    have ⟨H_b3, H_c3, H_bb3⟩ := hid3 b3 c3 bb3; clear b3 c3 bb3
    have ok3 : LkP.Ok ⟨L, A3, p3, B3, n3⟩ w3 := ⟨pa3.1, pb3.1, H_sx.out, H_sy.out⟩
    clear pa3 pb3
    obtain ⟨w4, hw4⟩ : ∃ W, w3.alloc (.cells #[.int .i64 L.d, .int .i64 L.k, .int .i64 L.r, .int .i64 L.x.s, .int .i64 L.x.c, .slice A3 L.x.l.length p3, .int .u64 L.x.u, .int .i64 L.y.s, .int .i64 L.y.c, .slice B3 L.y.l.length n3, .int .u64 L.y.u, .bool L.up] 48) = W := ⟨_, rfl⟩
    have kL4 : Blk w4 w3.heap.size #[.int .i64 L.d, .int .i64 L.k, .int .i64 L.r, .int .i64 L.x.s, .int .i64 L.x.c, .slice A3 L.x.l.length p3, .int .u64 L.x.u, .int .i64 L.y.s, .int .i64 L.y.c, .slice B3 L.y.l.length n3, .int .u64 L.y.u, .bool L.up] := by rw [← hw4]; exact blk_new rfl
    have c4 : Below w3.heap.size w3 w4 := by rw [← hw4]; exact alloc_below _ _
    have ok4 := ok3.below c4
    have bb4 := H_bb3.out.trans (c4.mono H_bb3.out.size)
    have s04 := bb4.size
    have ⟨H_ok3, H_hw4, H_kL4, H_c4, H_ok4, H_bb4⟩ := hid6 ok3 hw4 kL4 c4 ok4 bb4; clear ok3 hw4 kL4 c4 ok4 bb4
    go_upto_region 8 with (fail)
    rw [H_hw4.out]
    go_loopw [11, 12] (fun u i wr => ∃ (j : Nat) (A5 : Option Addr) (c5 : Nat), j ≤ k ∧ u = .slice A5 j c5 ∧ i = .int .i64 j ∧ OwnS wr w4.heap.size A5 c5 ((ts.take j).map (triS m)) ∧ Below w4.heap.size w4 wr) (fun _ i _ => k - (intOf i).toNat)
    case atStart => exact ⟨0, none, 0, by omega, rfl, rfl, OwnRows.nil _ _ _ _ _, Below.refl _ _⟩
    case round =>
      obtain ⟨j, A5, c5, hj, rfl, rfl, ow5, bz⟩ := hrel
      have szw := bz.size
      have l5 : ((ts.take j).map (triS m)).length = j := by rw [List.length_map, List.length_take, H_hk.out]; omega
      by_cases hlt : j < k
      · have g1 : (j : Int) < (k : Int) := by omega
        have g0 : (0 : Int) ≤ (j : Int) := by omega
        obtain ⟨z, hz⟩ : ∃ s, ts[j]? = some s := ⟨_, List.getElem?_eq_getElem (by rw [H_hk.out]; exact hlt)⟩
        have bw := H_bb4.out.trans (bz.mono H_bb4.out.size)
        obtain ⟨bs, os, rfl, zs, ⟨za, zb, zc⟩, c0, c1, c2⟩ := (H_hts.out.below bw).at hz
        obtain ⟨xa, hxa⟩ : ∃ x : Int, ((z.a % m : Nat) : Int) = x := ⟨_, rfl⟩
        obtain ⟨xb, hxb⟩ : ∃ x : Int, ((z.b % 1000000000 : Nat) : Int) = x := ⟨_, rfl⟩
        obtain ⟨xc, hxc⟩ : ∃ x : Int, ((z.c % 4 : Nat) : Int) = x := ⟨_, rfl⟩
        have e5 : (ts.take (j + 1)).map (triS m) = (ts.take j).map (triS m) ++ [⟨0, xa, xb, xc⟩] := by rw [List.take_add_one, hz, List.map_append, ← hxa, ← hxb, ← hxc]; rfl
        have wb : IntKind.i64.wrap ((z.b : Int).tmod 1000000000) = xb := by rw [← hxb]; exact IntWalk.i64_in _ (by have := Nat.mod_lt z.b (show 0 < 1000000000 by omega); show _ ≤ ((z.b % 1000000000 : Nat) : Int) ∧ ((z.b % 1000000000 : Nat) : Int) ≤ _; omega)
        have wc : IntKind.i64.wrap ((z.c : Int).tmod 4) = xc := by rw [← hxc]; exact IntWalk.i64_in _ (by have := Nat.mod_lt z.c (show 0 < 4 by omega); show _ ≤ ((z.c % 4 : Nat) : Int) ∧ ((z.c % 4 : Nat) : Int) ≤ _; omega)
        have wa : IntKind.i64.wrap (z.a : Int) = (z.a : Int) := IntWalk.i64_in _ (by omega)
        have nz : ¬ m = 0 := by omega
        have tma : (z.a : Int).tmod (m : Int) = xa := hxa
        obtain ⟨w5, hw5⟩ : ∃ W, wr.alloc (.cells #[.int .u32 (z.a : Int), .int .u32 (z.b : Int), .int .u32 (z.c : Int)] 52) = W := ⟨_, rfl⟩
        have d5 : Below wr.heap.size wr w5 := by rw [← hw5]; exact alloc_below _ _
        have y5 : Blk w5 wr.heap.size #[.int .u32 (z.a : Int), .int .u32 (z.b : Int), .int .u32 (z.c : Int)] := by rw [← hw5]; exact blk_new rfl
        have ow55 := OwnRows.below ow5 d5
        have b5 := bz.trans (d5.mono bz.size)
        have s5 := b5.size
        generalize (ts.take j).map (triS m) = L5 at *
        have ⟨H_bz, H_bw, H_hz, H_e5, H_ow5, H_ow55, H_l5, H_d5⟩ := hid8 bz bw hz e5 ow5 ow55 l5 d5; clear bz bw hz e5 ow5 ow55 l5 d5; have ⟨H_y5, H_b5, H_hw5, H_hxa, H_hxb, H_hxc⟩ := hid6 y5 b5 hw5 hxa hxb hxc; clear y5 b5 hw5 hxa hxb hxc
        go_upto_region 11 with (fail)
        rw [H_hw5.out]
        clear c0 c1 c2
        have y0 := (H_y5.out 0 _ rfl).at
        have y1 := (H_y5.out 1 _ rfl).at
        have y2 := (H_y5.out 2 _ rfl).at
        have ly := (H_y5.out 0 _ rfl).lt
        refine wp_region_held_drew (S := (fun W => (∀ o, W.cell? ⟨wr.heap.size, o, none⟩ = w5.cell? ⟨wr.heap.size, o, none⟩) ∧ Below w4.heap.size w4 W)) (by kernel_rfl) ?_ (fun hHeld => ?_)
        · exact ⟨fun _ => rfl, H_b5.out.drew⟩
        refine take_at (i := 0) (some 61) rfl rfl (by kernel_rfl) (fun _ _ _ h => h) (by rfl) (v := ?_) ?_ (by assumption) ?_
        rotate_left
        · intro W hSw; (try dsimp only at hSw); go_simp; (try with_reducible rfl)
        (try simp only [apz])
        refine take_at (i := 1) (some 62) rfl rfl (by kernel_rfl) (fun _ _ _ h => h) (by rfl) (v := ?_) ?_ (by assumption) ?_
        rotate_left
        · intro W hSw; (try dsimp only at hSw); go_simp; (try with_reducible rfl)
        (try simp only [apz])
        refine take_at (i := 2) (some 63) rfl rfl (by kernel_rfl) (fun _ _ _ h => h) (by rfl) (v := ?_) ?_ (by assumption) ?_
        rotate_left
        · intro W hSw; (try dsimp only at hSw); go_simp; (try with_reducible rfl)
        (try simp only [apz])
        refine take_at (i := 3) (some 64) rfl rfl (by kernel_rfl) (fun _ _ _ h => h) (by rfl) (v := ?_) ?_ (by assumption) ?_
        rotate_left
        · intro W hSw; (try dsimp only at hSw); go_simp; (try with_reducible rfl)
        (try simp only [apz])
        refine take_at (i := 4) (some 65) rfl rfl (by kernel_rfl) (fun _ _ _ h => h) (by rfl) (v := ?_) ?_ (by assumption) ?_
        rotate_left
        · intro W hSw; (try dsimp only at hSw); go_simp; (try with_reducible rfl)
        (try simp only [apz])
        refine take_at (i := 5) (some 66) rfl rfl (by kernel_rfl) (fun _ _ _ h => h) (by rfl) (v := ?_) ?_ (by assumption) ?_
        rotate_left
        · intro W hSw; (try dsimp only at hSw); go_simp; (try with_reducible rfl)
        (try simp only [apz])
        refine take_at (i := 6) (some 67) rfl rfl (by kernel_rfl) (fun _ _ _ h => h) (by rfl) (v := ?_) ?_ (by assumption) ?_
        rotate_left
        · intro W hSw; (try dsimp only at hSw); go_simp; (try with_reducible rfl)
        (try simp only [apz])
        refine take_at (i := 7) (some 68) rfl rfl (by kernel_rfl) (fun _ _ _ h => h) (by rfl) (v := ?_) ?_ (by assumption) ?_
        rotate_left
        · intro W hSw; (try dsimp only at hSw); go_simp; (try with_reducible rfl)
        (try simp only [apz])
        refine take_at (i := 8) (some 69) rfl rfl (by kernel_rfl) (fun _ _ _ h => h) (by rfl) (v := ?_) ?_ (by assumption) ?_
        rotate_left
        · intro W hSw; (try dsimp only at hSw); go_simp; (try with_reducible rfl)
        (try simp only [apz])
        refine take_at (i := 9) (some 70) rfl rfl (by kernel_rfl) (fun _ _ _ h => h) (by rfl) (v := ?_) ?_ (by assumption) ?_
        rotate_left
        · intro W hSw; (try dsimp only at hSw); go_simp; (try with_reducible rfl)
        (try simp only [apz])
        refine take_at (i := 10) (some 71) rfl rfl (by kernel_rfl) (fun _ _ _ h => h) (by rfl) (v := ?_) ?_ (by assumption) ?_
        rotate_left
        · intro W hSw; (try dsimp only at hSw); go_simp; (try with_reducible rfl)
        (try simp only [apz])
        refine take_at (i := 11) (some 72) rfl rfl (by kernel_rfl) (fun _ _ _ h => h) (by rfl) (v := ?_) ?_ (by assumption) ?_
        rotate_left
        · intro W hSw; (try dsimp only at hSw); go_simp; (try with_reducible rfl)
        (try simp only [apz])
        refine take_at (i := 12) (some 73) rfl rfl (by kernel_rfl) (fun _ _ _ h => h) (by rfl) (v := ?_) ?_ (by assumption) ?_
        rotate_left
        · intro W hSw; (try dsimp only at hSw); go_simp; (try with_reducible rfl)
        (try simp only [apz])
        refine take_at (i := 13) (some 74) rfl rfl (by kernel_rfl) (fun _ _ _ h => h) (by rfl) (v := ?_) ?_ (by assumption) ?_
        rotate_left
        · intro W hSw; (try dsimp only at hSw); go_simp; (try with_reducible rfl)
        (try simp only [apz])
        refine take_at (i := 14) (some 75) rfl rfl (by kernel_rfl) (fun _ _ _ h => h) (by rfl) (v := ?_) ?_ (by assumption) ?_
        rotate_left
        · intro W hSw; (try dsimp only at hSw); go_simp; (try with_reducible rfl)
        (try simp only [apz])
        refine take_at (i := 15) (some 76) rfl rfl (by kernel_rfl) (fun _ _ _ h => h) (by rfl) (v := ?_) ?_ (by assumption) ?_
        rotate_left
        · intro W hSw; (try dsimp only at hSw); go_simp; (try with_reducible rfl)
        (try simp only [apz])
        refine wpAnyH_ready (rs := [16]) (by kernel_rfl) (by simp) ?_
        refine AllReadyH.cons rfl (fun K hK => ?_) AllReadyH.nil
        go_simp
        have bA : Below w5.heap.size w5 (w5.alloc (.cells #[.int .i64 0, .int .i64 xa, .int .i64 xb, .int .i64 xc] 53)) := alloc_below _ _
        have b4A : Below w4.heap.size w4 (w5.alloc (.cells #[.int .i64 0, .int .i64 xa, .int .i64 xb, .int .i64 xc] 53)) := H_b5.out.alloc s5 _
        have cA : ∀ o, (w5.alloc (.cells #[.int .i64 0, .int .i64 xa, .int .i64 xb, .int .i64 xc] 53)).cell? ⟨wr.heap.size, o, none⟩ = w5.cell? ⟨wr.heap.size, o, none⟩ := fun o => bA.cell (p := ⟨wr.heap.size, o, none⟩) ly
        refine hK.out _ _ ?_ (fun hHeld => ?_)
        · first | exact ⟨cA, b4A⟩ | exact ⟨cA, b4A.drew⟩
        clear hK K
        (try simp only [apz])
        refine wpAnyH_ready (rs := [17]) (by kernel_rfl) (by simp) ?_
        refine AllReadyH.cons rfl (fun K hK => ?_) AllReadyH.nil
        refine step_app_show _ (by rfl) (.tmp 61) (.tmp 77) (by rfl) w4.heap.size A5 (some ⟨w5.heap.size, 0, none⟩) c5 1 j L5 ⟨0, xa, xb, xc⟩ H_l5.out (by omega) (by rfl) (by rfl) (by first | exact OwnRows.alloc H_ow55.out _ | exact OwnRows.below (OwnRows.alloc H_ow55.out _) (Below.refl _ _).drew) (by first | exact shows_new w5 ⟨0, xa, xb, xc⟩ _ _ rfl | exact (shows_new w5 ⟨0, xa, xb, xc⟩ _ _ rfl).below (Below.refl _ _).drew) (by simp; omega) ?_
        intro A9 c9 w9 ow9 gr9
        have gr9' : (w5.alloc (.cells #[.int .i64 0, .int .i64 xa, .int .i64 xb, .int .i64 xc] 53)).grownBy w9 (blockOf A5) := by first | exact gr9 | exact grown_then (grown_drew (grown_refl _ _)) gr9 (.inl rfl)
        have b9 : Below w4.heap.size w4 w9 := b4A.grown gr9' b4A.size (fun r e => (H_ow5.out.lt r e).1)
        have c9' : ∀ o, w9.cell? ⟨wr.heap.size, o, none⟩ = w5.cell? ⟨wr.heap.size, o, none⟩ := fun o => (World.cell?_of_block (a := ⟨wr.heap.size, o, none⟩) (gr9'.block _ (by simp; omega) (fun e => by have := (H_ow5.out.lt wr.heap.size e.symm).2; omega))).trans (cA o)
        refine hK.out _ _ ?_ (fun hHeld => ?_)
        · exact ⟨c9', b9⟩
        clear hK K
        (try simp only [apz])
        refine wpAnyH_ready (rs := [18]) (by kernel_rfl) (by simp) ?_
        refine AllReadyH.cons rfl (fun K hK => ?_) AllReadyH.nil
        go_simp
        refine hK.out _ _ ?_ (fun hHeld => ?_)
        · exact ⟨c9', b9⟩
        clear hK K
        (try simp only [apz])
        refine wpAnyH_done (by kernel_rfl) ?_ _
        clear cA c9'
        have ⟨H_ow9, H_gr9, H_gr9', H_b9, H_bA, H_b4A⟩ := hid6 ow9 gr9 gr9' b9 bA b4A; clear ow9 gr9 gr9' b9 bA b4A
        go_wp2_with fail
        go_roundw
        case rel => exact ⟨j + 1, A9, c9, by omega, rfl, by go_num, by rw [H_e5.out]; exact H_ow9.out, H_b9.out⟩
        case measure => simp [intOf]; omega
      · have g1 : ¬ (j : Int) < (k : Int) := by omega
        have ej : k = j := by omega
        subst ej
        rw [List.take_of_length_le (by rw [H_hk.out]; exact Nat.le_refl _)] at ow5 l5
        obtain ⟨w6, hw6⟩ : ∃ W, wr = W := ⟨_, rfl⟩
        rw [hw6] at ow5 bz szw ⊢
        have bb6 := H_bb4.out.trans (bz.mono s04)
        have s06 := bb6.size
        have sh6 := ow5.shows
        have ok6 := H_ok4.out.below bz
        have kL6 := H_kL4.out.below bz
        have q4 := fun W b (h1 : Locks W (some ⟨b, 0, none⟩) [⟨L, A3, p3, B3, n3⟩]) (h : Below w0.heap.size w0 W) (h2 : Shows W A5 (ts.map (triS m))) => drun_any (some ⟨b, 0, none⟩) 1 1 [⟨L, A3, p3, B3, n3⟩] X cx m cs A5 c5 k (ts.map (triS m)) W rfl H_hm.out l5 (by omega) (by omega) (by omega) h1 (H_hcs.out.below h) h2 (H_ht.out.below h)
        simp only [List.map_cons, List.map_nil] at q4
        have rn := ran H_p1.out
        have rlen : (exO cs (D : Int) 1024 [] ((ts.map (triS m)).map Sh4.shw)).length = k := by rw [← H_p2.out, rn.2.1, l5]
        rw [rn.2.2.1, H_p2.out] at q4
        unfold RunRes at q4
        rw [rlen] at q4
        generalize runL [L] cs (ts.map (triS m)) = RLL at q4
        generalize RLL.length = rll at q4
        have opn := exO_at cs (D : Int) 1024 ((ts.map (triS m)).map Sh4.shw) []
        have nxs := exB_snoc cs (D : Int) 1024 ((ts.map (triS m)).map Sh4.shw) []
        have gds : ∀ s ∈ ts.map (triS m), GoodS 1 cs.length s := (run_good H_p1.out).2.2
        have exk : ∀ j, cdsB (exB cs (D : Int) 1024 [] (((ts.map (triS m)).map Sh4.shw).take j)) = true ∧ (exB cs (D : Int) 1024 [] (((ts.map (triS m)).map Sh4.shw).take j)).length ≤ 20 ∧ ∀ c ∈ exB cs (D : Int) 1024 [] (((ts.map (triS m)).map Sh4.shw).take j), c ∈ cs := fun j => by
          have hl : (((ts.map (triS m)).map Sh4.shw).take j).length ≤ 20 := by rw [List.length_take, List.length_map, l5]; omega
          obtain ⟨a, b, c⟩ := exB_ok (cs := cs) H_hc.out (d := (D : Int)) (k := 1024) (p := ((ts.map (triS m)).map Sh4.shw).take j) (fun s hs => by
            obtain ⟨x, hx, rfl⟩ := List.mem_map.1 (List.mem_of_mem_take hs)
            have b0 := (gds x hx).b0; have b1 := (gds x hx).b1
            show x.b.toNat < _
            omega) (by omega)
          exact ⟨a, by omega, c⟩
        obtain ⟨RO, hRO⟩ : ∃ l, exO cs (D : Int) 1024 [] ((ts.map (triS m)).map Sh4.shw) = l := ⟨_, rfl⟩
        rw [hRO] at q4 rlen opn
        obtain ⟨AL, hAL⟩ : ∃ l, ts.map (triS m) = l := ⟨_, rfl⟩
        rw [hAL] at q4 opn nxs gds exk sh6 l5 ow5
        have ⟨H_q4, H_rn, H_rlen, H_opn, H_nxs, H_gds, H_exk, H_sh6⟩ := hid8 q4 rn rlen opn nxs gds exk sh6; clear q4 rn rlen opn nxs gds exk sh6; have ⟨H_ok6, H_kL6, H_bb6, H_ow5, H_bz, H_l5, H_hw6, H_hRO⟩ := hid8 ok6 kL6 bb6 ow5 bz l5 hw6 hRO; clear ok6 kL6 bb6 ow5 bz l5 hw6 hRO; have H_hAL := Lib.hid hAL; clear hAL
        obtain ⟨y0, y1, y2, y3, y4, y5, y6, y7, y8, y9, y10, y11⟩ := at12_of H_kL6.out
        have ly := (H_kL6.out 0 _ rfl).lt
        go_wp2_with fail
        (with_reducible refine (H_q4.out _ _ ?_ ?_ ?_).mono ?_)
        · exact locks_one w6 _ _ _ _ rfl rfl H_ok6.out
        · exact H_bb6.out.trans ((show Below w6.heap.size w6 _ from belt).mono s06)
        · exact H_sh6.out.below (show Below w6.heap.size w6 _ from belt)
        rintro e w7 ⟨A7, cc7, P7, O7, kk7, rfl, _, _, ob7, _, _, b7⟩
        have c7 : Below w6.heap.size w6 w7 := Below.trans belt (b7.mono omh)
        have s7 := c7.size
        have bb7 := H_bb6.out.trans (c7.mono H_bb6.out.size)
        have ⟨H_b7, H_c7, H_bb7⟩ := hid3 b7 c7 bb7; clear b7 c7 bb7
        clear ly
        clear y0 y1 y2 y3 y4 y5 y6 y7 y8 y9 y10 y11
        have sh7 := H_sh6.out.below H_c7.out
        have s67 := H_c7.out.size
        have ⟨H_ob7, H_sh7⟩ := hid2 ob7 sh7; clear ob7 sh7
        go_upto_region 17 with (fail)
        go_loopw [17, 18] (fun u i wr => ∃ (j : Nat) (A8 : Option Addr) (N8 c8 : Nat), j ≤ k ∧ u = .slice A8 N8 c8 ∧ i = .int .i64 j ∧ (exB cs (D : Int) 1024 [] ((AL.map Sh4.shw).take j)).length = N8 ∧ OwnC wr w7.heap.size A8 c8 (exB cs (D : Int) 1024 [] ((AL.map Sh4.shw).take j)) ∧ Below w7.heap.size w7 wr) (fun _ i _ => k - (intOf i).toNat)
        case atStart => exact ⟨0, none, 0, 0, by omega, rfl, rfl, rfl, OwnRows.nil _ _ _ _ _, Below.refl _ _⟩
        case round =>
          obtain ⟨j, A8, N8, c8, hj, rfl, rfl, l8, ow8, bz8⟩ := hrel
          obtain ⟨w8, hw8⟩ : ∃ W, wr = W := ⟨_, rfl⟩
          rw [hw8] at ow8 bz8 ⊢
          have sz8 := bz8.size
          have bw8 := H_bb7.out.trans (bz8.mono H_bb7.out.size)
          have s08 := bw8.size
          by_cases hlt : j < k
          rotate_left
          · have g1 : ¬ (j : Int) < (k : Int) := by omega
            have ⟨H_ow8, H_bz8, H_bw8, H_l8, H_hw8⟩ := hid5 ow8 bz8 bw8 l8 hw8; clear ow8 bz8 bw8 l8 hw8
            go_wp2_with fail
            go_ret
            exact ⟨rfl, H_bw8.out⟩
          have g1 : (j : Int) < (k : Int) := by omega
          have g0 : (0 : Int) ≤ (j : Int) := by omega
          obtain ⟨s, hs⟩ : ∃ s, AL[j]? = some s := ⟨_, List.getElem?_eq_getElem (by rw [H_l5.out]; exact hlt)⟩
          have gd := H_gds.out s (List.mem_of_getElem? hs)
          obtain ⟨i2, j2, es1, es2, hi2, hj2, ew⟩ := good_nat gd
          obtain ⟨c, hcj⟩ : ∃ s, cs[j2]? = some s := ⟨_, List.getElem?_eq_getElem hj2⟩
          have hs2 : (AL.map Sh4.shw)[j]? = some ⟨i2, j2, s.c, s.d⟩ := by rw [List.getElem?_map, hs]; exact congrArg some ew
          have ho := H_opn.out j _ hs2
          have hn := H_nxs.out j _ hs2
          rw [show cdD cs (⟨i2, j2, s.c, s.d⟩ : Shw).j = c from cdD_at hcj] at ho hn
          obtain ⟨ek1, ek2, ek3⟩ := H_exk.out j
          generalize exB cs (D : Int) 1024 [] ((AL.map Sh4.shw).take j) = BS at *
          have hca : allV cs = true := by have := H_hc.out; rw [cdsB, Bool.and_eq_true] at this; exact this.2
          have cv : cvB c = true := List.all_eq_true.1 hca c (List.mem_of_getElem? hcj)
          have hV : mayV BS c 1024 s.c = true := by rw [mayV, cv, hmem1024, ek1, gd.t]; rfl
          have fitc := cards_all H_hcs.out hcj
          have csB : Cards w8 A8 BS := OwnC.cards ow8 (fun x hx => H_hcs.out.fit x (ek3 x hx))
          have q5 := fun W (h : Below w8.heap.size w8 W) => dmay_any c 1024 A8 c8 N8 BS s.c W fitc l8 (by omega) (csB.below h) (H_ht.out.below (bw8.trans (h.mono s08)))
          have q6 := fun W (h : Below w8.heap.size w8 W) => rcounts_any c (D : Int) 1024 A8 c8 N8 BS s.c W fitc l8 (by omega) (csB.below h) hV
          rw [mayE, if_pos hV, mayR, hV, Bool.true_and, may_is] at q5
          rw [nxtB] at hn
          rw [opnB] at ho
          dsimp only at hn ho
          obtain ⟨bs, os, rfl, zs, c0, c1, c2, c3⟩ := ((H_sh7.out.below bz8)).at hs
          obtain ⟨ba, oa, rfl, za, _, a0, a1, a2, a3, a4, a5, a6, a7, a8⟩ := (H_hcs.out.below bw8).at hcj
          rw [es2] at c1
          generalize mayD BS c 1024 s.c = M at *
          generalize cntD BS c (D : Int) 1024 s.c = CT at *
          have h2' : (0 : Int) ≤ (j2 : Int) := by omega
          have h3' : (j2 : Int) < (m : Int) := by rw [← H_hm.out]; omega
          obtain ⟨x1, hx1⟩ : ∃ x, (c.d == (D : Int)) = x := ⟨_, rfl⟩
          obtain ⟨x2, hx2⟩ : ∃ x, (c.d == 0) = x := ⟨_, rfl⟩
          obtain ⟨x3, hx3⟩ : ∃ x, (s.d == 3) = x := ⟨_, rfl⟩
          obtain ⟨x4, hx4⟩ : ∃ x, decide (2 ≤ s.d) = x := ⟨_, rfl⟩
          rw [← beq_dec, ← beq_dec, ← beq_dec, hx1, hx2, hx3] at ho
          obtain ⟨bo, oo, rfl, zo, d0⟩ := (H_ob7.out.below bz8).at ho
          have hn2 : exB cs (D : Int) 1024 [] ((AL.map Sh4.shw).take (j + 1)) = if (x4 && CT) = true then BS ++ [c] else BS := by
            rw [hn, ← hx4]
            by_cases h : 2 ≤ s.d ∧ CT = true
            · rw [if_pos h, if_pos (by rw [Bool.and_eq_true, decide_eq_true_eq]; exact h)]
            · rw [if_neg h, if_neg (by rw [Bool.and_eq_true, decide_eq_true_eq]; exact h)]
          obtain ⟨w9, hw9⟩ : ∃ W, w8.alloc (.cells #[.int .i64 c.i, .int .i64 c.k, .int .i64 c.d, .int .i64 c.n, .int .i64 c.f, .int .i64 c.u, .int .i64 c.l, .int .i64 c.e, .int .i64 c.s] 28) = W := ⟨_, rfl⟩
          have d9 : Below w8.heap.size w8 w9 := by rw [← hw9]; exact alloc_below _ _
          have k9 : Blk w9 w8.heap.size #[.int .i64 c.i, .int .i64 c.k, .int .i64 c.d, .int .i64 c.n, .int .i64 c.f, .int .i64 c.u, .int .i64 c.l, .int .i64 c.e, .int .i64 c.s] := by rw [← hw9]; exact blk_new rfl
          have c0' := keepc d9 zs c0
          have c1' := keepc d9 zs c1
          have c2' := keepc d9 zs c2
          have c3' := keepc d9 zs c3
          have d0' := keepc d9 zo d0
          have s9 := d9.size
          have zk9 := (k9 0 _ rfl).lt
          have zs9 : bs < w9.heap.size := by omega
          have zo9 : bo < w9.heap.size := by omega
          unfold Crd.cells at q5 q6
          clear ho hn ew ek1 ek3 hca cv gd
          have ⟨H_ow8, H_bz8, H_bw8, H_l8, H_hw8, H_hs, H_hs2, H_hV⟩ := hid8 ow8 bz8 bw8 l8 hw8 hs hs2 hV; clear ow8 bz8 bw8 l8 hw8 hs hs2 hV; have ⟨H_fitc, H_csB, H_q5, H_q6, H_hn2, H_hw9, H_d9, H_k9⟩ := hid8 fitc csB q5 q6 hn2 hw9 d9 k9; clear fitc csB q5 q6 hn2 hw9 d9 k9; have ⟨H_hcj, H_es1, H_es2, H_ek2⟩ := hid4 hcj es1 es2 ek2; clear hcj es1 es2 ek2
          go_upto_region 20 with (fail)
          rw [H_hw9.out]
          clear a0 a1 a2 a3 a4 a5 a6 a7 a8 c0 c1 c2 c3 d0
          obtain ⟨y0, y1, y2, y3, y4, y5, y6, y7, y8⟩ := at9_of H_k9.out
          refine wp_region_held_drew (S := (fun W => (∀ b o, b < w9.heap.size → W.cell? ⟨b, o, none⟩ = w9.cell? ⟨b, o, none⟩) ∧ Below w9.heap.size w9 W)) (by kernel_rfl) ?_ (fun hHeld => ?_)
          · (try dsimp only); (first | (refine ext_mk ?_; exact belt))
          refine take_at (i := 0) (some 116) rfl rfl (by kernel_rfl) (fun _ _ _ h => h) (by rfl) (v := ?_) ?_ (by assumption) ?_
          rotate_left
          · intro W hSw; (try dsimp only at hSw); go_simp; (try with_reducible rfl)
          (try simp only [apz])
          refine take_at (i := 1) (some 117) rfl rfl (by kernel_rfl) (fun _ _ _ h => h) (by rfl) (v := ?_) ?_ (by assumption) ?_
          rotate_left
          · intro W hSw; (try dsimp only at hSw); go_simp; (try with_reducible rfl)
          (try simp only [apz])
          refine take_at (i := 2) (some 118) rfl rfl (by kernel_rfl) (fun _ _ _ h => h) (by rfl) (v := ?_) ?_ (by assumption) ?_
          rotate_left
          · intro W hSw; (try dsimp only at hSw); go_simp; (try with_reducible rfl)
          (try simp only [apz])
          refine take_at (i := 3) (some 119) rfl rfl (by kernel_rfl) (fun _ _ _ h => h) (by rfl) (v := ?_) ?_ (by assumption) ?_
          rotate_left
          · intro W hSw; (try dsimp only at hSw); go_simp; (try with_reducible rfl)
          (try simp only [apz])
          refine take_at (i := 4) (some 120) rfl rfl (by kernel_rfl) (fun _ _ _ h => h) (by rfl) (v := ?_) ?_ (by assumption) ?_
          rotate_left
          · intro W hSw; (try dsimp only at hSw); go_simp; (try with_reducible rfl)
          (try simp only [apz])
          refine take_at (i := 5) (some 121) rfl rfl (by kernel_rfl) (fun _ _ _ h => h) (by rfl) (v := ?_) ?_ (by assumption) ?_
          rotate_left
          · intro W hSw; (try dsimp only at hSw); go_simp; (try with_reducible rfl)
          (try simp only [apz])
          refine take_at (i := 6) (some 122) rfl rfl (by kernel_rfl) (fun _ _ _ h => h) (by rfl) (v := ?_) ?_ (by assumption) ?_
          rotate_left
          · intro W hSw; (try dsimp only at hSw); go_simp; (try with_reducible rfl)
          (try simp only [apz])
          refine wpAnyH_ready (rs := [7]) (by kernel_rfl) (by simp) ?_
          refine AllReadyH.cons rfl (fun K hK => ?_) AllReadyH.nil
          go_simp
          (go_at_call 13; (with_reducible refine (H_q5.out _ ?_).mono ?_); (focus (exact H_d9.out.trans ((And.right (by assumption : _ ∧ Below w9.heap.size w9 _)).mono s9))); rintro e w10 ⟨rfl, hbw10⟩; have gw10 := Below.trans (And.right (by assumption : _ ∧ Below w9.heap.size w9 _)) (hbw10.mono (Below.size (And.right (by assumption : _ ∧ Below w9.heap.size w9 _)))); have gsw10 := gw10.size; have hcf := bcell hbw10; have hcw10 := hcf.1; have hfw10 := hcf.2; have hsw10 := hbw10.size; (try simp only [World.size_alloc, World.heap_drewN, heap_drew] at hsw10); have H_hbw10 := Lib.hid hbw10; clear hbw10 hcf; (try have hzw10 : w9.heap.size < w10.heap.size := by omega))
          refine hK.out _ _ ?_ (fun hHeld => ?_)
          · (try dsimp only); (first | (refine ext_mk ?_; exact belt))
          clear hK K
          (try simp only [apz])
          refine take_at (i := 8) (some 115) rfl rfl (by kernel_rfl) (fun _ _ _ h => h) (by rfl) (v := ?_) ?_ (by assumption) ?_
          rotate_left
          · intro W hSw; (try dsimp only at hSw); go_simp; (try with_reducible rfl)
          (try simp only [apz])
          refine take_at (i := 9) (some 124) rfl rfl (by kernel_rfl) (fun _ _ _ h => h) (by rfl) (v := ?_) ?_ (by assumption) ?_
          rotate_left
          · intro W hSw; (try dsimp only at hSw); go_simp; (try with_reducible rfl)
          (try simp only [apz])
          refine take_at (i := 10) (some 125) rfl rfl (by kernel_rfl) (fun _ _ _ h => h) (by rfl) (v := ?_) ?_ (by assumption) ?_
          rotate_left
          · intro W hSw; (try dsimp only at hSw); go_simp; (try with_reducible rfl)
          (try simp only [apz])
          refine take_at (i := 11) (some 20) rfl rfl (by kernel_rfl) (fun _ _ _ h => h) (by rfl) (v := ?_) ?_ (by assumption) ?_
          rotate_left
          · intro W hSw; (try dsimp only at hSw); go_simp; (try with_reducible rfl)
          (try simp only [apz])
          refine take_at (i := 12) (some 21) rfl rfl (by kernel_rfl) (fun _ _ _ h => h) (by rfl) (v := ?_) ?_ (by assumption) ?_
          rotate_left
          · intro W hSw; (try dsimp only at hSw); go_simp; (try with_reducible rfl)
          (try simp only [apz])
          refine wpAnyH_done (by kernel_rfl) ?_ _
          have gF : Below w9.heap.size w9 w10 := And.right (by assumption)
          clear hcw10 hfw10 hHeld
          have s10 := gF.size
          have k10 := H_k9.out.below gF
          have e2' := keepc gF zs9 c2'
          have e3' := keepc gF zs9 c3'
          have f0' := keepc gF zo9 d0'
          have zs10 : bs < w10.heap.size := by omega
          have zo10 : bo < w10.heap.size := by omega
          have zk10 := (k10 0 _ rfl).lt
          clear y0 y1 y2 y3 y4 y5 y6 y7 y8
          clear c0' c1' c2' c3' d0'
          have ⟨H_gF, H_k10⟩ := hid2 gF k10; clear gF k10
          go_upto_region 21 with (fail)
          go_cut [154] from 126 to 153 (fun c wx => c = .bool false ∧ Below w10.heap.size w10 wx)
          case first =>
            obtain ⟨y0, y1, y2, y3, y4, y5, y6, y7, y8⟩ := at9_of H_k10.out
            cases M
            · go_quiet (fail)
              go_wp2_with fail
              go_meet
              (case rel => exact ⟨rfl, by first | exact Below.refl _ _ | exact below_drewN (Below.refl _ _) _⟩)
            · cases x1
              · cases x2
                · go_quiet (fail)
                  go_wp2_with fail
                  go_meet
                  (case rel => exact ⟨rfl, by first | exact Below.refl _ _ | exact below_drewN (Below.refl _ _) _⟩)
                · cases x3
                  all_goals
                    go_quiet (fail)
                    go_wp2_with fail
                    go_meet
                    (case rel => exact ⟨rfl, by first | exact Below.refl _ _ | exact below_drewN (Below.refl _ _) _⟩)
              · cases x3
                all_goals
                  go_quiet (fail)
                  go_wp2_with fail
                  go_meet
                  (case rel => exact ⟨rfl, by first | exact Below.refl _ _ | exact below_drewN (Below.refl _ _) _⟩)
          case rest =>
            obtain ⟨rfl, hcut⟩ := hcut
            obtain ⟨w11, hw11⟩ : ∃ W, wc = W := ⟨_, rfl⟩
            rw [hw11] at hcut ⊢
            have c11 := hcut
            have s11 := c11.size
            have k11 := H_k10.out.below c11
            have e2 := keepc c11 zs10 e2'
            have e3 := keepc c11 zs10 e3'
            have zs11 : bs < w11.heap.size := by omega
            have zk11 := (k11 0 _ rfl).lt
            have b811 : Below w8.heap.size w8 w11 := H_d9.out.trans ((H_gF.out.mono s9).trans (c11.mono (by omega)))
            have b711 := H_bz8.out.trans (b811.mono sz8)
            have ow11 := OwnRows.below H_ow8.out b811
            clear e2' e3' f0' hcut
            have ⟨H_hw11, H_c11, H_k11, H_b811, H_b711, H_ow11⟩ := hid6 hw11 c11 k11 b811 b711 ow11; clear hw11 c11 k11 b811 b711 ow11
            obtain ⟨y0, y1, y2, y3, y4, y5, y6, y7, y8⟩ := at9_of H_k11.out
            cases x4
            · go_upto_region 23 with (fail)
              refine wp_region_held_drew (S := (fun W => (∀ b o, b < w11.heap.size → W.cell? ⟨b, o, none⟩ = w11.cell? ⟨b, o, none⟩) ∧ Below w11.heap.size w11 W)) (by kernel_rfl) ?_ (fun hHeld => ?_)
              · (try dsimp only); (first | (refine ext_mk ?_; exact belt))
              refine take_at (i := 0) (some 155) rfl rfl (by kernel_rfl) (fun _ _ _ h => h) (by rfl) (v := ?_) ?_ (by assumption) ?_
              rotate_left
              · intro W hSw; (try dsimp only at hSw); go_simp; (try with_reducible rfl)
              (try simp only [apz])
              refine take_at (i := 1) (some 156) rfl rfl (by kernel_rfl) (fun _ _ _ h => h) (by rfl) (v := ?_) ?_ (by assumption) ?_
              rotate_left
              · intro W hSw; (try dsimp only at hSw); go_simp; (try with_reducible rfl)
              (try simp only [apz])
              refine take_at (i := 2) (some 157) rfl rfl (by kernel_rfl) (fun _ _ _ h => h) (by rfl) (v := ?_) ?_ (by assumption) ?_
              rotate_left
              · intro W hSw; (try dsimp only at hSw); go_simp; (try with_reducible rfl)
              (try simp only [apz])
              refine take_at (i := 3) (some 158) rfl rfl (by kernel_rfl) (fun _ _ _ h => h) (by rfl) (v := ?_) ?_ (by assumption) ?_
              rotate_left
              · intro W hSw; (try dsimp only at hSw); go_simp; (try with_reducible rfl)
              (try simp only [apz])
              refine take_at (i := 4) (some 159) rfl rfl (by kernel_rfl) (fun _ _ _ h => h) (by rfl) (v := ?_) ?_ (by assumption) ?_
              rotate_left
              · intro W hSw; (try dsimp only at hSw); go_simp; (try with_reducible rfl)
              (try simp only [apz])
              refine take_at (i := 5) (some 160) rfl rfl (by kernel_rfl) (fun _ _ _ h => h) (by rfl) (v := ?_) ?_ (by assumption) ?_
              rotate_left
              · intro W hSw; (try dsimp only at hSw); go_simp; (try with_reducible rfl)
              (try simp only [apz])
              refine take_at (i := 6) (some 161) rfl rfl (by kernel_rfl) (fun _ _ _ h => h) (by rfl) (v := ?_) ?_ (by assumption) ?_
              rotate_left
              · intro W hSw; (try dsimp only at hSw); go_simp; (try with_reducible rfl)
              (try simp only [apz])
              refine skip_at (i := 7) (some 162) rfl rfl (by kernel_rfl) (fun _ _ _ h => h) (by rfl) (by assumption) ?_
              (try simp only [apz])
              refine skip_at (i := 8) (some 163) rfl rfl (by kernel_rfl) (fun _ _ _ h => h) (by rfl) (by assumption) ?_
              (try simp only [apz])
              refine skip_at (i := 9) (some 164) rfl rfl (by kernel_rfl) (fun _ _ _ h => h) (by rfl) (by assumption) ?_
              (try simp only [apz])
              refine skip_at (i := 10) (some 165) rfl rfl (by kernel_rfl) (fun _ _ _ h => h) (by rfl) (by assumption) ?_
              (try simp only [apz])
              refine skip_at (i := 11) (some 166) rfl rfl (by kernel_rfl) (fun _ _ _ h => h) (by rfl) (by assumption) ?_
              (try simp only [apz])
              refine skip_at (i := 12) (some 167) rfl rfl (by kernel_rfl) (fun _ _ _ h => h) (by rfl) (by assumption) ?_
              (try simp only [apz])
              refine skip_at (i := 13) (some 168) rfl rfl (by kernel_rfl) (fun _ _ _ h => h) (by rfl) (by assumption) ?_
              (try simp only [apz])
              refine skip_at (i := 14) (some 169) rfl rfl (by kernel_rfl) (fun _ _ _ h => h) (by rfl) (by assumption) ?_
              (try simp only [apz])
              refine skip_at (i := 15) (some 170) rfl rfl (by kernel_rfl) (fun _ _ _ h => h) (by rfl) (by assumption) ?_
              (try simp only [apz])
              refine take_at (i := 16) (some 171) rfl rfl (by kernel_rfl) (fun _ _ _ h => h) (by rfl) (v := ?_) ?_ (by assumption) ?_
              rotate_left
              · intro W hSw; (try dsimp only at hSw); go_simp; (try with_reducible rfl)
              (try simp only [apz])
              refine wpAnyH_done (by kernel_rfl) ?_ _
              have gZ : Below w11.heap.size w11 _ := And.right (by assumption)
              have b7z := H_b711.out.trans (gZ.mono (by have := H_b711.out.size; omega))
              have owz := OwnRows.below H_ow11.out gZ
              have ⟨H_gZ, H_b7z, H_owz⟩ := hid3 gZ b7z owz; clear gZ b7z owz
              go_wp2_with fail
              go_roundw
              case rel => exact ⟨j + 1, A8, N8, c8, by omega, rfl, by go_num, by rw [H_hn2.out]; exact H_l8.out, by rw [H_hn2.out]; exact H_owz.out, H_b7z.out⟩
              case measure => simp [intOf]; omega
            · go_upto_region 23 with (fail)
              refine wp_region_held_drew (S := (fun W => (∀ b o, b < w11.heap.size → W.cell? ⟨b, o, none⟩ = w11.cell? ⟨b, o, none⟩) ∧ Below w11.heap.size w11 W)) (by kernel_rfl) ?_ (fun hHeld => ?_)
              · (try dsimp only); (first | (refine ext_mk ?_; exact belt))
              refine take_at (i := 0) (some 155) rfl rfl (by kernel_rfl) (fun _ _ _ h => h) (by rfl) (v := ?_) ?_ (by assumption) ?_
              rotate_left
              · intro W hSw; (try dsimp only at hSw); go_simp; (try with_reducible rfl)
              (try simp only [apz])
              refine take_at (i := 1) (some 156) rfl rfl (by kernel_rfl) (fun _ _ _ h => h) (by rfl) (v := ?_) ?_ (by assumption) ?_
              rotate_left
              · intro W hSw; (try dsimp only at hSw); go_simp; (try with_reducible rfl)
              (try simp only [apz])
              refine take_at (i := 2) (some 157) rfl rfl (by kernel_rfl) (fun _ _ _ h => h) (by rfl) (v := ?_) ?_ (by assumption) ?_
              rotate_left
              · intro W hSw; (try dsimp only at hSw); go_simp; (try with_reducible rfl)
              (try simp only [apz])
              refine take_at (i := 3) (some 158) rfl rfl (by kernel_rfl) (fun _ _ _ h => h) (by rfl) (v := ?_) ?_ (by assumption) ?_
              rotate_left
              · intro W hSw; (try dsimp only at hSw); go_simp; (try with_reducible rfl)
              (try simp only [apz])
              refine take_at (i := 4) (some 159) rfl rfl (by kernel_rfl) (fun _ _ _ h => h) (by rfl) (v := ?_) ?_ (by assumption) ?_
              rotate_left
              · intro W hSw; (try dsimp only at hSw); go_simp; (try with_reducible rfl)
              (try simp only [apz])
              refine take_at (i := 5) (some 160) rfl rfl (by kernel_rfl) (fun _ _ _ h => h) (by rfl) (v := ?_) ?_ (by assumption) ?_
              rotate_left
              · intro W hSw; (try dsimp only at hSw); go_simp; (try with_reducible rfl)
              (try simp only [apz])
              refine take_at (i := 6) (some 161) rfl rfl (by kernel_rfl) (fun _ _ _ h => h) (by rfl) (v := ?_) ?_ (by assumption) ?_
              rotate_left
              · intro W hSw; (try dsimp only at hSw); go_simp; (try with_reducible rfl)
              (try simp only [apz])
              refine take_at (i := 7) (some 162) rfl rfl (by kernel_rfl) (fun _ _ _ h => h) (by rfl) (v := ?_) ?_ (by assumption) ?_
              rotate_left
              · intro W hSw; (try dsimp only at hSw); go_simp; (try with_reducible rfl)
              (try simp only [apz])
              refine take_at (i := 8) (some 163) rfl rfl (by kernel_rfl) (fun _ _ _ h => h) (by rfl) (v := ?_) ?_ (by assumption) ?_
              rotate_left
              · intro W hSw; (try dsimp only at hSw); go_simp; (try with_reducible rfl)
              (try simp only [apz])
              refine take_at (i := 9) (some 164) rfl rfl (by kernel_rfl) (fun _ _ _ h => h) (by rfl) (v := ?_) ?_ (by assumption) ?_
              rotate_left
              · intro W hSw; (try dsimp only at hSw); go_simp; (try with_reducible rfl)
              (try simp only [apz])
              refine take_at (i := 10) (some 165) rfl rfl (by kernel_rfl) (fun _ _ _ h => h) (by rfl) (v := ?_) ?_ (by assumption) ?_
              rotate_left
              · intro W hSw; (try dsimp only at hSw); go_simp; (try with_reducible rfl)
              (try simp only [apz])
              refine take_at (i := 11) (some 166) rfl rfl (by kernel_rfl) (fun _ _ _ h => h) (by rfl) (v := ?_) ?_ (by assumption) ?_
              rotate_left
              · intro W hSw; (try dsimp only at hSw); go_simp; (try with_reducible rfl)
              (try simp only [apz])
              refine take_at (i := 12) (some 167) rfl rfl (by kernel_rfl) (fun _ _ _ h => h) (by rfl) (v := ?_) ?_ (by assumption) ?_
              rotate_left
              · intro W hSw; (try dsimp only at hSw); go_simp; (try with_reducible rfl)
              (try simp only [apz])
              refine take_at (i := 13) (some 168) rfl rfl (by kernel_rfl) (fun _ _ _ h => h) (by rfl) (v := ?_) ?_ (by assumption) ?_
              rotate_left
              · intro W hSw; (try dsimp only at hSw); go_simp; (try with_reducible rfl)
              (try simp only [apz])
              refine take_at (i := 14) (some 169) rfl rfl (by kernel_rfl) (fun _ _ _ h => h) (by rfl) (v := ?_) ?_ (by assumption) ?_
              rotate_left
              · intro W hSw; (try dsimp only at hSw); go_simp; (try with_reducible rfl)
              (try simp only [apz])
              refine wpAnyH_ready (rs := [15]) (by kernel_rfl) (by simp) ?_
              refine AllReadyH.cons rfl (fun K hK => ?_) AllReadyH.nil
              go_simp
              (go_at_call 17; (with_reducible refine (H_q6.out _ ?_).mono ?_); (focus (exact H_b811.out.trans ((And.right (by assumption : _ ∧ Below w11.heap.size w11 _)).mono (by omega)))); rintro e w12 ⟨rfl, hbw12⟩; have gw12 := Below.trans (And.right (by assumption : _ ∧ Below w11.heap.size w11 _)) (hbw12.mono (Below.size (And.right (by assumption : _ ∧ Below w11.heap.size w11 _)))); have gsw12 := gw12.size; have hcf := bcell hbw12; have hcw12 := hcf.1; have hfw12 := hcf.2; have hsw12 := hbw12.size; (try simp only [World.size_alloc, World.heap_drewN, heap_drew] at hsw12); have H_hbw12 := Lib.hid hbw12; clear hbw12 hcf; (try have hzw12 : w11.heap.size < w12.heap.size := by omega))
              refine hK.out _ _ ?_ (fun hHeld => ?_)
              · (try dsimp only); (first | (refine ext_mk ?_; exact belt))
              clear hK K
              (try simp only [apz])
              refine take_at (i := 16) (some 171) rfl rfl (by kernel_rfl) (fun _ _ _ h => h) (by rfl) (v := ?_) ?_ (by assumption) ?_
              rotate_left
              · intro W hSw; (try dsimp only at hSw); go_simp; (try with_reducible rfl)
              (try simp only [apz])
              refine wpAnyH_done (by kernel_rfl) ?_ _
              have gZ : Below w11.heap.size w11 w12 := And.right (by assumption)
              clear hcw12 hfw12 hHeld
              have s12 := gZ.size
              have b7z := H_b711.out.trans (gZ.mono (by have := H_b711.out.size; omega))
              have owz := OwnRows.below H_ow11.out gZ
              have k12 := H_k11.out.below gZ
              have zk12 := (k12 0 _ rfl).lt
              have s7z := b7z.size
              clear y0 y1 y2 y3 y4 y5 y6 y7 y8
              have ⟨H_gZ, H_b7z, H_owz, H_k12⟩ := hid4 gZ b7z owz k12; clear gZ b7z owz k12
              cases CT
              · go_wp2_with fail
                go_roundw
                case rel => exact ⟨j + 1, A8, N8, c8, by omega, rfl, by go_num, by rw [H_hn2.out]; exact H_l8.out, by rw [H_hn2.out]; exact H_owz.out, H_b7z.out⟩
                case measure => simp [intOf]; omega
              · skip
                obtain ⟨y0, y1, y2, y3, y4, y5, y6, y7, y8⟩ := at9_of H_k12.out
                go_upto_region 24 with (fail)
                go_wp2_with (at_builtin; refine wp_app_c _ rfl (.tmp 172) (.tmp 174) rfl w7.heap.size A8 c8 N8 BS H_l8.out rfl (OwnRows.alloc H_owz.out _) (some ⟨w12.heap.size, 0, none⟩) 1 1 [c] rfl rfl (cards_lit w12 [c] _ _ _ rfl rfl (fun x hx => by rw [List.mem_singleton] at hx; rw [hx]; exact H_fitc.out)) (N8 + 1) rfl (by have := H_ek2.out; have := H_l8.out; omega) (by simp; omega) ?_)
                intro A13 c13 w13 ow13 gr13
                have b13 : Below w7.heap.size w7 w13 := (H_b7z.out.alloc s7z _).grown gr13 (by simp; omega) (fun r e => (OwnRows.lt H_owz.out r e).1)
                clear y0 y1 y2 y3 y4 y5 y6 y7 y8
                have ⟨H_ow13, H_gr13, H_b13⟩ := hid3 ow13 gr13 b13; clear ow13 gr13 b13
                go_wp2_with fail
                go_roundw
                case rel => exact ⟨j + 1, A13, N8 + 1, c13, by omega, rfl, by go_num, by rw [H_hn2.out, if_pos (show (true && true) = true from rfl), List.length_append, H_l8.out]; rfl, by rw [H_hn2.out, if_pos (show (true && true) = true from rfl)]; exact H_ow13.out, H_b13.out⟩
                case measure => simp [intOf]; omega
end Go.Proofs.YtclgncaghiinhaaGreatDoor
