/- The walk of JournalMatchesReference. -/
import Derived.Deep.Slices
import Derived.BigGuardPart
import Derived.Deep.CutRange
import Derived.RangeFuncNested
import Derived.RangeFuncBound
import Derived.RangeFuncCalls
import Derived.RangeFuncLeaves
import Derived.Shelf.Abstract
import Derived.Shelf.RegionOpen
import Derived.WalkKit
import Derived.OwnWalkIn
import Derived.TacticsInMore
import Derived.LoopNIn
import Derived.LoopIn
import Derived.BigGuardPartIn
import Derived.DeepKeys
import Derived.Deep.Cut
import Derived.Shelf.Strconv.Itoa0
import Derived.Shelf.Strconv.Itoa1
import Derived.Shelf.LaysM
import Derived.Shelf.Strconv.Itoa2
import Derived.Shelf.Strconv.Itoa3
import Derived.Ground.Names2Prog
import Derived.Shelf.Slices.Clone
import Derived.Test.YtmbmejclnagffaaDoorProg
import Derived.BigQuiet
import Derived.Test.YtmbmejclnagffaaDoorM1
import Derived.Test.YtmbmejclnagffaaDoorM2
import Derived.Test.YtmbmejclnagffaaDoorM3
import Derived.Test.YtmbmejclnagffaaDoorM4
import Derived.Test.YtmbmejclnagffaaDoorM5
import Derived.Test.YtmbmejclnagffaaDoorM6
import Derived.Test.YtmbmejclnagffaaDoorM7
import Derived.Test.YtmbmejclnagffaaDoorM8
import Derived.Test.YtmbmejclnagffaaDoorM9
import Derived.Test.YtmbmejclnagffaaDoorM10
import Derived.Test.YtmbmejclnagffaaDoorM11
import Derived.Test.YtmbmejclnagffaaDoorM12
import Derived.Test.YtmbmejclnagffaaDoorM13
import Derived.Test.YtmbmejclnagffaaDoorM14
import Derived.Test.YtmbmejclnagffaaDoorM15
import Derived.Test.YtmbmejclnagffaaDoorM16
import Derived.Test.YtmbmejclnagffaaDoorM17
import Derived.Test.YtmbmejclnagffaaDoorM18
import Derived.Test.YtmbmejclnagffaaDoorM19
import Derived.Test.YtmbmejclnagffaaDoorM20
import Derived.Test.YtmbmejclnagffaaDoorM21
import Derived.Test.YtmbmejclnagffaaDoorM22
import Derived.Test.YtmbmejclnagffaaDoorM23
import Derived.Test.YtmbmejclnagffaaDoorM24
import Derived.Test.YtmbmejclnagffaaDoorM25
import Derived.Test.YtmbmejclnagffaaDoorM26
import Derived.Test.YtmbmejclnagffaaDoorM27
import Derived.Test.YtmbmejclnagffaaDoorM28
import Derived.Test.YtmbmejclnagffaaDoorM29
import Derived.Test.YtmbmejclnagffaaDoorM30
import Derived.Test.YtmbmejclnagffaaDoorM31
import Derived.Test.YtmbmejclnagffaaDoorM32
import Derived.Test.YtmbmejclnagffaaDoorM33
import Derived.Test.YtmbmejclnagffaaDoorM34
import Derived.Test.YtmbmejclnagffaaDoorM35
import Derived.Test.YtmbmejclnagffaaDoorM36
import Derived.Test.YtmbmejclnagffaaDoorM37
import Derived.Test.YtmbmejclnagffaaDoorM38
import Derived.Test.YtmbmejclnagffaaDoorM39
import Derived.Test.YtmbmejclnagffaaDoorM40
import Derived.Test.YtmbmejclnagffaaDoorM41
import Derived.Test.YtmbmejclnagffaaDoorM42
import Derived.Test.YtmbmejclnagffaaDoorM43
import Derived.Test.YtmbmejclnagffaaDoorM44
import Derived.Test.YtmbmejclnagffaaDoorM45
import Derived.Test.YtmbmejclnagffaaDoorM46
import Derived.Test.YtmbmejclnagffaaDoorM47
import Derived.Test.YtmbmejclnagffaaDoorM48
import Derived.Test.YtmbmejclnagffaaDoorR1
import Derived.Test.YtmbmejclnagffaaDoorR3
set_option linter.unusedSimpArgs false
set_option linter.unusedVariables false
set_option maxRecDepth 100000
namespace Go.Proofs.YtmbmejclnagffaaDoor
open Go.RowKit
set_option maxHeartbeats 1000000 in
theorem slEqual_any (A B : Option Addr) (c d n k : Nat) (l m : List Int) (hln : l.length = n) (hmk : m.length = k) (hn : n ≤ 1000000) (hk : k ≤ 1000000) (w : World) (hl : IntsAt w A .i64 l) (hm : IntsAt w B .i64 m) :
    Calls Tryd.prog 53 #[.slice A n c, .slice B k d] w fun e w' => e = .returned (.bool (sameB l m)) ∧ Below w.heap.size w w' := by
  subst hln hmk
  have bb0 := Below.refl w.heap.size w
  by_cases hne : l.length = m.length
  · have hd : ((l.length : Int) != (m.length : Int)) = false := by simp [hne]
    generalize hN : l.length = N at *
    generalize hM : m.length = M at *
    have hs := @list_eq_of l m (by omega)
    have ⟨H_hl, H_hm, H_hN, H_hM, H_hne, H_hs, H_bb0⟩ := hid7 hl hm hN hM hne hs bb0; clear hl hm hN hM hne hs bb0
    go_enter Tryd.func53, Tryd.ntmps53
    go_wp2
    go_loopw [13] (fun i wr => ∃ k : Nat, k ≤ N ∧ i = .int .i64 k ∧ (∀ j, j < k → l.getD j 0 = m.getD j 0) ∧ Below w.heap.size w wr) (fun i _ => N - (intOf i).toNat)
    case atStart => exact ⟨0, by omega, rfl, fun j hj => absurd hj (by omega), H_bb0.out⟩
    case round =>
      obtain ⟨k, hk, rfl, hall, bz⟩ := hrel
      by_cases hlt : k < N
      · obtain ⟨b, off, hA, hbs, hc⟩ := (H_hl.out.below bz) k (by rw [H_hN.out]; exact hlt)
        obtain ⟨b2, off2, hA2, hbs2, hc2⟩ := (H_hm.out.below bz) k (by rw [H_hM.out]; have := H_hne.out; omega)
        have hltM : k < M := by have := H_hne.out; omega
        have i1 : (0 : Int) ≤ (k : Int) := by omega
        have i2 : (k : Int) < (N : Int) := by omega
        have i3 : (k : Int) < (M : Int) := by omega
        have hnx := @list_ne_at l m k
        subst hA hA2
        have hnext : l.getD k 0 = m.getD k 0 → ∀ j, j < k + 1 → l.getD j 0 = m.getD j 0 := fun he j hj => by
          rcases Nat.lt_or_ge j k with h | h
          · exact hall j h
          · rw [show j = k by omega]; exact he
        have bzd := fun q => below_drewN bz q
        generalize l.getD k 0 = x at *
        generalize m.getD k 0 = y at *
        by_cases hxy : x = y
        · have hb : (x != y) = false := by simp [hxy]
          have ⟨H_hall, H_hnext, H_hnx, H_hxy, H_bz, H_bzd⟩ := hid6 hall hnext hnx hxy bz bzd; clear hall hnext hnx hxy bz bzd
          go_wp2
          go_quiet (fail)
          go_wp2
          go_roundw
          case rel => exact ⟨k + 1, by omega, by go_num, H_hnext.out H_hxy.out, by first | exact H_bz.out | exact H_bzd.out _⟩
          case measure => simp [intOf]; omega
        · have hb : (x != y) = true := by simp [hxy]
          have ⟨H_hall, H_hnext, H_hnx, H_hxy, H_bz, H_bzd⟩ := hid6 hall hnext hnx hxy bz bzd; clear hall hnext hnx hxy bz bzd
          go_wp2
          go_quiet (fail)
          go_wp2
          go_ret
          exact ⟨ret_bool (H_hnx.out H_hxy.out).symm, by first | exact H_bz.out | exact H_bzd.out _⟩
      · have hfin : sameB l m = true := H_hs.out fun j hj => hall j (by rw [H_hN.out] at hj; omega)
        have ⟨H_hall, H_hfin, H_bz⟩ := hid3 hall hfin bz; clear hall hfin bz
        go_wp2
        go_ret
        exact ⟨ret_bool H_hfin.out.symm, H_bz.out⟩
  · have hd : ((l.length : Int) != (m.length : Int)) = true := by simp; omega
    have hz : sameB l m = false := by rw [Bool.eq_false_iff]; intro h; rw [sameB_iff] at h; exact hne (by rw [h])
    have ⟨H_hl, H_hm, H_hne, H_hz, H_bb0⟩ := hid5 hl hm hne hz bb0; clear hl hm hne hz bb0
    go_enter Tryd.func53, Tryd.ntmps53
    go_wp2
    go_ret
    exact ⟨ret_bool H_hz.out.symm, H_bb0.out⟩
set_option maxRecDepth 100000 in
set_option maxHeartbeats 8000000 in
theorem fk1_any (x y : Msg) (hx : x.a.length ≤ 100000) (hy : y.a.length ≤ 100000) (w : World) (hl : IntsAt w x.A .i64 x.a) (hm : IntsAt w y.A .i64 y.a) :
    Calls Tryd.prog 52 #[.agg x.cells.toArray, .agg y.cells.toArray] w fun e w' => e = .returned (.bool (sameB (msI x) (msI y))) ∧ Below w.heap.size w w' := by
  have q1 := fun W h1 => jints_any x hx W h1
  have q2 := fun W h1 => jints_any y hy W h1
  have lx : (msI x).length = 4 + x.a.length := by simp [msI]; omega
  have ly : (msI y).length = 4 + y.a.length := by simp [msI]; omega
  have q3 := fun W A B c d h1 h2 => slEqual_any A B c d _ _ _ _ lx ly (by omega) (by omega) W h1 h2
  obtain ⟨N, hN⟩ : ∃ N, x.a.length = N := ⟨_, rfl⟩
  obtain ⟨M, hM⟩ : ∃ M, y.a.length = M := ⟨_, rfl⟩
  have ex : x.cells.toArray = #[.int .i64 x.p, .int .i64 x.s, .int .i64 x.t, .int .i64 x.k, .slice x.A N x.c] := by rw [← hN]; rfl
  have ey : y.cells.toArray = #[.int .i64 y.p, .int .i64 y.s, .int .i64 y.t, .int .i64 y.k, .slice y.A M y.c] := by rw [← hM]; rfl
  rw [ex] at q1 ⊢
  rw [ey] at q2 ⊢
  rw [hN] at q1 q3
  rw [hM] at q2 q3
  obtain ⟨w0, hw0⟩ : ∃ W, (w.alloc (.cells #[.int .i64 x.p, .int .i64 x.s, .int .i64 x.t, .int .i64 x.k, .slice x.A N x.c] 47)).alloc (.cells #[.int .i64 y.p, .int .i64 y.s, .int .i64 y.t, .int .i64 y.k, .slice y.A M y.c] 47) = W := ⟨_, rfl⟩
  have bb0 : Below w.heap.size w w0 := by rw [← hw0]; exact ((Below.refl _ _).alloc (Nat.le_refl _) _).alloc (by simp) _
  have k0 : Blk w0 w.heap.size #[.int .i64 x.p, .int .i64 x.s, .int .i64 x.t, .int .i64 x.k, .slice x.A N x.c] := by rw [← hw0]; exact (blk_new rfl).alloc _
  have j0 : Blk w0 (w.heap.size + 1) #[.int .i64 y.p, .int .i64 y.s, .int .i64 y.t, .int .i64 y.k, .slice y.A M y.c] := by rw [← hw0]; exact blk_new (by simp)
  have l0 := hl.below bb0
  have m0 := hm.below bb0
  generalize sameB (msI x) (msI y) = R at *
  generalize msI x = IX at *
  generalize msI y = IY at *
  generalize x.p = xp at *
  generalize x.s = xs at *
  generalize x.t = xt at *
  generalize x.k = xk at *
  generalize x.A = xA at *
  generalize x.c = xc at *
  generalize x.a = xa at *
  generalize y.p = yp at *
  generalize y.s = ys at *
  generalize y.t = yt at *
  generalize y.k = yk at *
  generalize y.A = yA at *
  generalize y.c = yc at *
  generalize y.a = ya at *
  clear ex ey
  have ⟨H_q1, H_q2, H_q3, H_hw0, H_bb0, H_k0, H_j0, H_l0⟩ := hid8 q1 q2 q3 hw0 bb0 k0 j0 l0; clear q1 q2 q3 hw0 bb0 k0 j0 l0; have ⟨H_m0, H_hl, H_hm, H_lx, H_ly, H_hN, H_hM, H_hx⟩ := hid8 m0 hl hm lx ly hN hM hx; clear m0 hl hm lx ly hN hM hx; have H_hy := Lib.hid hy; clear hy
  go_enter Tryd.func52, Tryd.ntmps52
  go_upto_region 1 with (fail)
  rw [H_hw0.out]
  have u0 := (H_k0.out 0 _ rfl).at
  have u1 := (H_k0.out 1 _ rfl).at
  have u2 := (H_k0.out 2 _ rfl).at
  have u3 := (H_k0.out 3 _ rfl).at
  have u4 := (H_k0.out 4 _ rfl).at
  have v0 := (H_j0.out 0 _ rfl).at
  have v1 := (H_j0.out 1 _ rfl).at
  have v2 := (H_j0.out 2 _ rfl).at
  have v3 := (H_j0.out 3 _ rfl).at
  have v4 := (H_j0.out 4 _ rfl).at
  have zu := (H_k0.out 0 _ rfl).lt
  have zv := (H_j0.out 0 _ rfl).lt
  refine wp_region_held_drew (S := (fun W => (∀ b o, b < w0.heap.size → W.cell? ⟨b, o, none⟩ = w0.cell? ⟨b, o, none⟩) ∧ Below w0.heap.size w0 W)) (by kernel_rfl) ?_ (fun hHeld => ?_)
  · (try dsimp only); (first | (refine ext_mk ?_; exact belt))
  refine take_at (i := 0) (some 5) rfl rfl (by kernel_rfl) (fun _ _ _ h => h) (by rfl) (v := ?_) ?_ (by assumption) ?_
  rotate_left
  · intro W hSw; (try dsimp only at hSw); go_simp; (try with_reducible rfl)
  (try simp only [apz])
  refine take_at (i := 2) (some 7) rfl rfl (by kernel_rfl) (fun _ _ _ h => h) (by rfl) (v := ?_) ?_ (by assumption) ?_
  rotate_left
  · intro W hSw; (try dsimp only at hSw); go_simp; (try with_reducible rfl)
  (try simp only [apz])
  refine wpAnyH_ready (rs := [1]) (by kernel_rfl) (by simp) ?_
  refine AllReadyH.cons rfl (fun K hK => ?_) AllReadyH.nil
  go_simp
  (go_at_call 37; (with_reducible refine (H_q1.out _ ?_).mono ?_); (focus (exact H_l0.out.below (And.right (by assumption : _ ∧ Below w0.heap.size w0 _)))); rintro e w1 ⟨A1, c1, rfl, o1, hbw1⟩; have gw1 := Below.trans (And.right (by assumption : _ ∧ Below w0.heap.size w0 _)) (hbw1.mono (Below.size (And.right (by assumption : _ ∧ Below w0.heap.size w0 _)))); have gsw1 := gw1.size; have hcf := bcell hbw1; have hcw1 := hcf.1; have hfw1 := hcf.2; have hsw1 := hbw1.size; (try simp only [World.size_alloc, World.heap_drewN, heap_drew] at hsw1); have H_hbw1 := Lib.hid hbw1; clear hbw1 hcf; (try have hzw1 : w0.heap.size < w1.heap.size := by omega))
  refine hK.out _ _ ?_ (fun hHeld => ?_)
  · (try dsimp only); (first | (refine ext_mk ?_; exact belt))
  clear hK K
  (try simp only [apz])
  refine wpAnyH_ready (rs := [3]) (by kernel_rfl) (by simp) ?_
  refine AllReadyH.cons rfl (fun K hK => ?_) AllReadyH.nil
  go_simp
  (go_at_call 37; (with_reducible refine (H_q2.out _ ?_).mono ?_); (focus (exact H_m0.out.below (And.right (by assumption : _ ∧ Below w0.heap.size w0 _)))); rintro e w2 ⟨A2, c2, rfl, o2, hbw2⟩; have gw2 := Below.trans (And.right (by assumption : _ ∧ Below w0.heap.size w0 _)) (hbw2.mono (Below.size (And.right (by assumption : _ ∧ Below w0.heap.size w0 _)))); have gsw2 := gw2.size; have hcf := bcell hbw2; have hcw2 := hcf.1; have hfw2 := hcf.2; have hsw2 := hbw2.size; (try simp only [World.size_alloc, World.heap_drewN, heap_drew] at hsw2); have H_hbw2 := Lib.hid hbw2; clear hbw2 hcf; (try have hzw2 : w0.heap.size < w2.heap.size := by omega))
  refine hK.out _ _ ?_ (fun hHeld => ?_)
  · (try dsimp only); (first | (refine ext_mk ?_; exact belt))
  clear hK K
  (try simp only [apz])
  have i1 := (OwnInts.ints o1).below H_hbw2.out
  have i2 := (OwnInts.ints o2)
  have hw2s := H_hbw2.out.size
  have ⟨H_i1, H_i2, H_o1, H_o2⟩ := hid4 i1 i2 o1 o2; clear i1 i2 o1 o2
  refine wpAnyH_ready (rs := [4]) (by kernel_rfl) (by simp) ?_
  refine AllReadyH.cons rfl (fun K hK => ?_) AllReadyH.nil
  go_simp
  (go_at_call 53; (with_reducible refine (H_q3.out _ _ _ _ _ ?_ ?_).mono ?_); (focus (exact (H_i1.out.below belt))); (focus (exact (H_i2.out.below belt))); rintro e w3 ⟨rfl, hbw3⟩; have gw3 := Below.trans (And.right (by assumption : _ ∧ Below w0.heap.size w0 _)) (hbw3.mono (Below.size (And.right (by assumption : _ ∧ Below w0.heap.size w0 _)))); have gsw3 := gw3.size; have hcf := bcell hbw3; have hcw3 := hcf.1; have hfw3 := hcf.2; have hsw3 := hbw3.size; (try simp only [World.size_alloc, World.heap_drewN, heap_drew] at hsw3); clear hbw3 hcf; (try have hzw3 : w0.heap.size < w3.heap.size := by omega))
  refine hK.out _ _ ?_ (fun hHeld => ?_)
  · (try dsimp only); (first | (refine ext_mk ?_; exact belt))
  clear hK K
  (try simp only [apz])
  refine take_at (i := 5) (some 4) rfl rfl (by kernel_rfl) (fun _ _ _ h => h) (by rfl) (v := ?_) ?_ (by assumption) ?_
  rotate_left
  · intro W hSw; (try dsimp only at hSw); go_simp; (try with_reducible rfl)
  (try simp only [apz])
  refine wpAnyH_done (by kernel_rfl) ?_ _
  have gF : Below w0.heap.size w0 _ := And.right (by assumption)
  have gG := H_bb0.out.trans (gF.mono H_bb0.out.size)
  have ⟨H_gF, H_gG⟩ := hid2 gF gG; clear gF gG
  go_wp2_with fail
  go_ret
  exact ⟨rfl, H_gG.out⟩
theorem map_take_all {l m : List Msg} {j : Nat} (h : ∀ i, i < j → (l.map msI)[i]? = (m.map msI)[i]?) {x y : Msg} (hx : l[j]? = some x) (hy : m[j]? = some y) (e : sameB (msI x) (msI y) = true) : ∀ i, i < j + 1 → (l.map msI)[i]? = (m.map msI)[i]? := fun i hi => by
  rcases Nat.lt_or_ge i j with h1 | h1
  · exact h i h1
  · rw [show i = j by omega, map_at hx, map_at hy, sameB_iff.1 e]
set_option maxRecDepth 100000 in
set_option maxHeartbeats 8000000 in
theorem efn_any (A : Option Addr) (c n : Nat) (l : List Msg) (B : Option Addr) (d : Nat) (m : List Msg) (hln : l.length = n) (hmk : m.length = n) (hn : n ≤ 1000000) (hla : ∀ x ∈ l, x.a.length ≤ 100000) (hma : ∀ x ∈ m, x.a.length ≤ 100000) (w : World) (hl : Msgs w A l) (hm : Msgs w B m) :
    Calls Tryd.prog 51 #[.slice A n c, .slice B n d, .func (.func 52) #[] #[]] w fun e w' => e = .returned (.bool (decide (l.map msI = m.map msI))) ∧ Below w.heap.size w w' := by
  have hd : ((n : Int) != (n : Int)) = false := by simp
  have bb : Below w.heap.size w w := Below.refl _ _
  have ⟨H_hl, H_hm, H_hln, H_hmk, H_hla, H_hma, H_bb⟩ := hid7 hl hm hln hmk hla hma bb; clear hl hm hln hmk hla hma bb
  go_enter Tryd.func51, Tryd.ntmps51
  go_upto_region 4 with (fail)
  go_loopw [17] (fun i wr => ∃ j : Nat, j ≤ n ∧ i = .int .i64 j ∧ (∀ i, i < j → (l.map msI)[i]? = (m.map msI)[i]?) ∧ Below w.heap.size w wr) (fun i _ => n - (intOf i).toNat)
  case atStart => exact ⟨0, by omega, rfl, fun j hj => absurd hj (by omega), H_bb.out⟩
  case round =>
    obtain ⟨j, hj, rfl, hall, bz⟩ := hrel
    by_cases hlt : j < n
    · have i1 : (0 : Int) ≤ (j : Int) := by omega
      have i2 : (j : Int) < (n : Int) := by omega
      obtain ⟨x, hx⟩ : ∃ x, l[j]? = some x := ⟨_, List.getElem?_eq_getElem (by rw [H_hln.out]; exact hlt)⟩
      obtain ⟨y, hy⟩ : ∃ y, m[j]? = some y := ⟨_, List.getElem?_eq_getElem (by rw [H_hmk.out]; exact hlt)⟩
      obtain ⟨b, off, hA, hbl, ⟨_, _, xi⟩, u0, u1, u2, u3, u4⟩ := (H_hl.out.below bz).at hx
      obtain ⟨b2, off2, hB, hbl2, ⟨_, _, yi⟩, v0, v1, v2, v3, v4⟩ := (H_hm.out.below bz).at hy
      subst hA hB
      have q := fun W h1 h2 => fk1_any x y (H_hla.out x (List.mem_of_getElem? hx)) (H_hma.out y (List.mem_of_getElem? hy)) W h1 h2
      have ex : x.cells.toArray = #[.int .i64 x.p, .int .i64 x.s, .int .i64 x.t, .int .i64 x.k, .slice x.A x.a.length x.c] := rfl
      have ey : y.cells.toArray = #[.int .i64 y.p, .int .i64 y.s, .int .i64 y.t, .int .i64 y.k, .slice y.A y.a.length y.c] := rfl
      rw [ex, ey] at q
      clear ex ey
      have hnext := map_take_all hall hx hy
      have hno : sameB (msI x) (msI y) = false → decide (l.map msI = m.map msI) = false := fun he => by
        refine decide_eq_false (fun h => ?_)
        have hx2 := map_at hx
        rw [h, map_at hy] at hx2
        rw [sameB_iff.2 (Option.some.inj hx2).symm] at he; cases he
      generalize sameB (msI x) (msI y) = R at *
      generalize x.a.length = xn at *
      generalize y.a.length = yn at *
      generalize x.p = xp at *
      generalize x.s = xs at *
      generalize x.t = xt at *
      generalize x.k = xk at *
      generalize y.p = yp at *
      generalize y.s = ys at *
      generalize y.t = yt at *
      generalize y.k = yk at *
      have bb0 := bz
      have x0 := xi
      have y0 := yi
      obtain ⟨w0, hw0⟩ : ∃ W, wr = W := ⟨_, rfl⟩
      subst hw0
      have ⟨H_hall, H_bz, H_xi, H_yi, H_q, H_hnext, H_hno, H_hx⟩ := hid8 hall bz xi yi q hnext hno hx; clear hall bz xi yi q hnext hno hx; have ⟨H_hy, H_bb0, H_x0, H_y0⟩ := hid4 hy bb0 x0 y0; clear hy bb0 x0 y0
      go_upto_region 7 with (fail)
      obtain ⟨w2, hw2⟩ : ∃ W, (wr.alloc (.cells #[.int .i64 xp, .int .i64 xs, .int .i64 xt, .int .i64 xk, .slice x.A xn x.c] 47)).alloc (.cells #[.int .i64 yp, .int .i64 ys, .int .i64 yt, .int .i64 yk, .slice y.A yn y.c] 47) = W := ⟨_, rfl⟩
      rw [hw2]
      have d2 : Below wr.heap.size wr w2 := by rw [← hw2]; exact ((Below.refl _ _).alloc (Nat.le_refl _) _).alloc (by simp) _
      have k2 : Blk w2 wr.heap.size #[.int .i64 xp, .int .i64 xs, .int .i64 xt, .int .i64 xk, .slice x.A xn x.c] := by rw [← hw2]; exact (blk_new rfl).alloc _
      have j2 : Blk w2 (wr.heap.size + 1) #[.int .i64 yp, .int .i64 ys, .int .i64 yt, .int .i64 yk, .slice y.A yn y.c] := by rw [← hw2]; exact blk_new (by simp)
      have x2 := H_xi.out.below d2
      have y2 := H_yi.out.below d2
      have bb2 := H_bz.out.trans (d2.mono H_bz.out.size)
      clear u0 u1 u2 u3 u4 v0 v1 v2 v3 v4
      have ⟨H_hw2, H_d2, H_k2, H_j2, H_x2, H_y2, H_bb2⟩ := hid7 hw2 d2 k2 j2 x2 y2 bb2; clear hw2 d2 k2 j2 x2 y2 bb2
      have u0 := (H_k2.out 0 _ rfl).at
      have u1 := (H_k2.out 1 _ rfl).at
      have u2 := (H_k2.out 2 _ rfl).at
      have u3 := (H_k2.out 3 _ rfl).at
      have u4 := (H_k2.out 4 _ rfl).at
      have v0 := (H_j2.out 0 _ rfl).at
      have v1 := (H_j2.out 1 _ rfl).at
      have v2 := (H_j2.out 2 _ rfl).at
      have v3 := (H_j2.out 3 _ rfl).at
      have v4 := (H_j2.out 4 _ rfl).at
      go_wp2_with fail
      (with_reducible refine (H_q.out _ ?_ ?_).mono ?_)
      · exact H_x2.out.below (show Below w2.heap.size w2 _ from belt)
      · exact H_y2.out.below (show Below w2.heap.size w2 _ from belt)
      rintro e w3 ⟨rfl, b3⟩
      have c3 : Below w2.heap.size w2 w3 := Below.trans belt (b3.mono omh)
      have s3 := c3.size
      have bb3 := H_bb2.out.trans (c3.mono H_bb2.out.size)
      have ⟨H_b3, H_c3, H_bb3⟩ := hid3 b3 c3 bb3; clear b3 c3 bb3
      cases R with
      | true =>
        have hn2 := H_hnext.out rfl
        have H_hn2 := Lib.hid hn2; clear hn2
        go_wp2_with fail
        go_roundw
        case rel => exact ⟨j + 1, by omega, by go_num, H_hn2.out, H_bb3.out⟩
        case measure => simp [intOf]; omega
      | false =>
        have hn2 := H_hno.out rfl
        have H_hn2 := Lib.hid hn2; clear hn2
        go_wp2_with fail
        go_ret
        exact ⟨ret_bool H_hn2.out.symm, H_bb3.out⟩
    · have i2 : ¬ (j : Int) < (n : Int) := by omega
      have hfin : decide (l.map msI = m.map msI) = true := decide_eq_true (by
        apply List.ext_getElem?
        intro i
        rcases Nat.lt_or_ge i j with h | h
        · exact hall i h
        · rw [List.getElem?_eq_none (by rw [List.length_map, H_hln.out]; omega), List.getElem?_eq_none (by rw [List.length_map, H_hmk.out]; omega)])
      have ⟨H_hall, H_hfin, H_bz⟩ := hid3 hall hfin bz; clear hall hfin bz
      go_wp2_with fail
      go_ret
      exact ⟨ret_bool H_hfin.out.symm, H_bz.out⟩
theorem Msgs.take {w : World} {A : Option Addr} {l : List Msg} (h : Msgs w A l) (n : Nat) : Msgs w A (l.take n) := by
  have e := List.take_append_drop n l
  rw [← e] at h
  exact h.pre
theorem sgd_len {ms : List Msg} {h : Hd} {party pub : Int} (hs : sgdB ms h party pub = true) : ∀ m ∈ ms, m.a.length ≤ 100000 := fun m hm => by
  rw [sgdB, Bool.and_eq_true] at hs
  have := msgB_len (okL_all (frm_ok hs.1).2 m hm)
  omega
theorem sgd_few {ms : List Msg} {h : Hd} {party pub : Int} (hs : sgdB ms h party pub = true) : ms.length ≤ 5000 := by
  rw [sgdB, Bool.and_eq_true] at hs
  exact (frm_ok hs.1).1
set_option maxRecDepth 100000 in
set_option maxHeartbeats 16000000 in
theorem jforks_any (A : Option Addr) (cp n : Nat) (ms : List Msg) (h : Hd) (B : Option Addr) (cq k : Nat) (ns : List Msg) (g : Hd) (party pub : Int) (hln : ms.length = n) (hlk : ns.length = k) (hn : n ≤ 9223372036854775807) (hk : k ≤ 9223372036854775807) (hnc : n ≤ cp) (hkc : k ≤ cq) (hf : HFit h) (hg : HFit g) (hp : -9223372036854775808 ≤ party ∧ party ≤ 9223372036854775807) (w : World) (hl : Msgs w A ms) (hm : Msgs w B ns) (ht : Tab w) (hc : Cnt w) :
    Calls Tryd.prog 24 #[.agg #[.slice A n cp, .int .i64 h.p, .int .i64 h.n, .int .u64 h.c, .int .i64 h.e, .int .i64 h.s], .agg #[.slice B k cq, .int .i64 g.p, .int .i64 g.n, .int .u64 g.c, .int .i64 g.e, .int .i64 g.s], .int .i64 party, .int .i64 pub] w fun e w' => e = .returned (.tuple #[.bool (frkV ms h ns g party pub), .int .i64 (frkE ms h ns g party pub)]) ∧ Below w.heap.size w w' := by
  obtain ⟨w0, hw0⟩ : ∃ W, (w.alloc (.cells #[.slice A n cp, .int .i64 h.p, .int .i64 h.n, .int .u64 h.c, .int .i64 h.e, .int .i64 h.s] 35)).alloc (.cells #[.slice B k cq, .int .i64 g.p, .int .i64 g.n, .int .u64 g.c, .int .i64 g.e, .int .i64 g.s] 35) = W := ⟨_, rfl⟩
  have bb0 : Below w.heap.size w w0 := by rw [← hw0]; exact ((Below.refl _ _).alloc (Nat.le_refl _) _).alloc (by simp) _
  have k0 : Blk w0 w.heap.size #[.slice A n cp, .int .i64 h.p, .int .i64 h.n, .int .u64 h.c, .int .i64 h.e, .int .i64 h.s] := by rw [← hw0]; exact (blk_new rfl).alloc _
  have j0 : Blk w0 (w.heap.size + 1) #[.slice B k cq, .int .i64 g.p, .int .i64 g.n, .int .u64 g.c, .int .i64 g.e, .int .i64 g.s] := by rw [← hw0]; exact blk_new (by simp)
  have l0 := hl.below bb0
  have r0 := hm.below bb0
  have t0 := ht.below bb0
  have m0 := hc.below bb0
  have q1 := fun W => jparty_any party hp W
  have q2 := fun W => member_any pub W
  have q3 := fun W h1 h2 h3 => jsigned_any A cp n ms h party pub hln hn hf hp W h1 h2 h3
  have q4 := fun W h1 h2 h3 => jsigned_any B cq k ns g party pub hlk hk hg hp W h1 h2 h3
  have hE : frkE ms h ns g party pub = if ptyB party = true ∧ memZ pub = true then if sgdB ms h party pub = true ∧ sgdB ns g party pub = true then 0 else 9 else 1 := rfl
  have hV : frkV ms h ns g party pub = (decide (frkE ms h ns g party pub = 0) && difB ms ns) := rfl
  have hD : difB ms ns = !decide ((ms.take (min n k)).map msI = (ns.take (min n k)).map msI) := by rw [difB, hln, hlk]
  have sl1 := @sgd_len ms h party pub
  have sl2 := @sgd_len ns g party pub
  have sf1 := @sgd_few ms h party pub
  have q5 := fun (h1 : n ≤ 5000) (h2 : ∀ x ∈ ms, x.a.length ≤ 100000) (h3 : ∀ x ∈ ns, x.a.length ≤ 100000) W => efn_any A cp (min n k) (ms.take (min n k)) B cq (ns.take (min n k)) (by rw [List.length_take, hln]; omega) (by rw [List.length_take, hlk]; omega) (by omega) (fun x hx => h2 x (List.mem_of_mem_take hx)) (fun x hx => h3 x (List.mem_of_mem_take hx)) W
  obtain ⟨q, hq⟩ : ∃ q, min n k = q := ⟨_, rfl⟩
  have hmin : min (n : Int) (k : Int) = (q : Int) := by omega
  have hqn : q ≤ n ∧ q ≤ k := by omega
  rw [hq] at hD q5
  generalize hFV : frkV ms h ns g party pub = FV at *
  generalize hFE : frkE ms h ns g party pub = FE at *
  generalize difB ms ns = DF at *
  generalize decide ((ms.take q).map msI = (ns.take q).map msI) = EQ at *
  generalize h.p = p1 at *
  generalize h.n = p2 at *
  generalize h.c = p3 at *
  generalize h.e = p4 at *
  generalize h.s = p5 at *
  generalize g.p = g1 at *
  generalize g.n = g2 at *
  generalize g.c = g3 at *
  generalize g.e = g4 at *
  generalize g.s = g5 at *
  generalize hP : ptyB party = PB at *
  generalize hM : memZ pub = MB at *
  generalize hS1 : sgdB ms h party pub = S1 at *
  generalize hS2 : sgdB ns g party pub = S2 at *
  have eV : FV = (decide (FE = 0) && DF) := by first | exact hV | exact hFV.symm.trans hV | exact hV.symm ▸ rfl
  subst eV
  have ⟨H_hE, H_hV, H_hD, H_hFV, H_hFE, H_q1, H_q2, H_q3⟩ := hid8 hE hV hD hFV hFE q1 q2 q3; clear hE hV hD hFV hFE q1 q2 q3; have ⟨H_q4, H_q5, H_sl1, H_sl2, H_sf1, H_hw0, H_bb0, H_k0⟩ := hid8 q4 q5 sl1 sl2 sf1 hw0 bb0 k0; clear q4 q5 sl1 sl2 sf1 hw0 bb0 k0; have ⟨H_j0, H_l0, H_r0, H_t0, H_m0, H_hl, H_hm, H_ht⟩ := hid8 j0 l0 r0 t0 m0 hl hm ht; clear j0 l0 r0 t0 m0 hl hm ht; have ⟨H_hc, H_hln, H_hlk, H_hf, H_hg, H_hP, H_hM, H_hS1⟩ := hid8 hc hln hlk hf hg hP hM hS1; clear hc hln hlk hf hg hP hM hS1; have ⟨H_hS2, H_hq⟩ := hid2 hS2 hq; clear hS2 hq
  have hEx := H_hE.out
  cases PB with
  | false =>
    have e1 : FE = 1 := by rw [hEx]; rfl
    subst e1
    have H_hEx := Lib.hid hEx; clear hEx
    go_enter Tryd.func24, Tryd.ntmps24
    go_upto_region 1 with (fail)
    rw [H_hw0.out]
    go_wp2_with fail
    (with_reducible refine (H_q1.out _).mono ?_)
    rintro e w_ ⟨rfl, hw_⟩
    subst hw_
    go_wp2_with fail
    go_ret2
    exact ⟨rfl, H_bb0.out⟩
  | true =>
  cases MB with
  | false =>
    have e1 : FE = 1 := by rw [hEx]; rfl
    subst e1
    have H_hEx := Lib.hid hEx; clear hEx
    go_enter Tryd.func24, Tryd.ntmps24
    go_upto_region 1 with (fail)
    rw [H_hw0.out]
    go_wp2_with fail
    (with_reducible refine (H_q1.out _).mono ?_)
    rintro e w_ ⟨rfl, hw_⟩
    subst hw_
    go_wp2_with fail
    (with_reducible refine (H_q2.out _).mono ?_)
    rintro e w1 ⟨rfl, b1⟩
    have c1 : Below w0.heap.size w0 w1 := Below.trans belt (b1.mono omh)
    have s1 := c1.size
    have bb1 := H_bb0.out.trans (c1.mono H_bb0.out.size)
    have ⟨H_b1, H_c1, H_bb1⟩ := hid3 b1 c1 bb1; clear b1 c1 bb1
    go_wp2_with fail
    go_ret2
    exact ⟨rfl, H_bb1.out⟩
  | true =>
  cases S1 with
  | false =>
    have e1 : FE = 9 := by rw [hEx]; rfl
    subst e1
    have H_hEx := Lib.hid hEx; clear hEx
    go_enter Tryd.func24, Tryd.ntmps24
    go_upto_region 1 with (fail)
    rw [H_hw0.out]
    go_wp2_with fail
    (with_reducible refine (H_q1.out _).mono ?_)
    rintro e w_ ⟨rfl, hw_⟩
    subst hw_
    go_wp2_with fail
    (with_reducible refine (H_q2.out _).mono ?_)
    rintro e w1 ⟨rfl, b1⟩
    have c1 : Below w0.heap.size w0 w1 := Below.trans belt (b1.mono omh)
    have s1 := c1.size
    have bb1 := H_bb0.out.trans (c1.mono H_bb0.out.size)
    have k1 := H_k0.out.below c1
    have j1 := H_j0.out.below c1
    have l1 := H_l0.out.below c1
    have r1 := H_r0.out.below c1
    have t1 := H_t0.out.below c1
    have m1 := H_m0.out.below c1
    have ⟨H_b1, H_c1, H_bb1, H_k1, H_j1, H_l1, H_r1, H_t1⟩ := hid8 b1 c1 bb1 k1 j1 l1 r1 t1; clear b1 c1 bb1 k1 j1 l1 r1 t1; have H_m1 := Lib.hid m1; clear m1
    have u0 := (H_k1.out 0 _ rfl).at
    have u1 := (H_k1.out 1 _ rfl).at
    have u2 := (H_k1.out 2 _ rfl).at
    have u3 := (H_k1.out 3 _ rfl).at
    have u4 := (H_k1.out 4 _ rfl).at
    have u5 := (H_k1.out 5 _ rfl).at
    go_wp2_with fail
    (with_reducible refine (H_q3.out _ ?_ ?_ ?_).mono ?_)
    · exact H_l1.out.below (show Below w1.heap.size w1 _ from belt)
    · exact H_t1.out.below (show Below w1.heap.size w1 _ from belt)
    · exact H_m1.out.below (show Below w1.heap.size w1 _ from belt)
    rintro e w2 ⟨rfl, b2⟩
    have c2 : Below w1.heap.size w1 w2 := Below.trans belt (b2.mono omh)
    have s2 := c2.size
    have bb2 := H_bb1.out.trans (c2.mono H_bb1.out.size)
    have ⟨H_b2, H_c2, H_bb2⟩ := hid3 b2 c2 bb2; clear b2 c2 bb2
    go_wp2_with fail
    go_ret2
    exact ⟨rfl, H_bb2.out⟩
  | true =>
  cases S2 with
  | false =>
    have e1 : FE = 9 := by rw [hEx]; rfl
    subst e1
    have H_hEx := Lib.hid hEx; clear hEx
    go_enter Tryd.func24, Tryd.ntmps24
    go_upto_region 1 with (fail)
    rw [H_hw0.out]
    go_wp2_with fail
    (with_reducible refine (H_q1.out _).mono ?_)
    rintro e w_ ⟨rfl, hw_⟩
    subst hw_
    go_wp2_with fail
    (with_reducible refine (H_q2.out _).mono ?_)
    rintro e w1 ⟨rfl, b1⟩
    have c1 : Below w0.heap.size w0 w1 := Below.trans belt (b1.mono omh)
    have s1 := c1.size
    have bb1 := H_bb0.out.trans (c1.mono H_bb0.out.size)
    have k1 := H_k0.out.below c1
    have j1 := H_j0.out.below c1
    have l1 := H_l0.out.below c1
    have r1 := H_r0.out.below c1
    have t1 := H_t0.out.below c1
    have m1 := H_m0.out.below c1
    have ⟨H_b1, H_c1, H_bb1, H_k1, H_j1, H_l1, H_r1, H_t1⟩ := hid8 b1 c1 bb1 k1 j1 l1 r1 t1; clear b1 c1 bb1 k1 j1 l1 r1 t1; have H_m1 := Lib.hid m1; clear m1
    have u0 := (H_k1.out 0 _ rfl).at
    have u1 := (H_k1.out 1 _ rfl).at
    have u2 := (H_k1.out 2 _ rfl).at
    have u3 := (H_k1.out 3 _ rfl).at
    have u4 := (H_k1.out 4 _ rfl).at
    have u5 := (H_k1.out 5 _ rfl).at
    go_wp2_with fail
    (with_reducible refine (H_q3.out _ ?_ ?_ ?_).mono ?_)
    · exact H_l1.out.below (show Below w1.heap.size w1 _ from belt)
    · exact H_t1.out.below (show Below w1.heap.size w1 _ from belt)
    · exact H_m1.out.below (show Below w1.heap.size w1 _ from belt)
    rintro e w2 ⟨rfl, b2⟩
    have c2 : Below w1.heap.size w1 w2 := Below.trans belt (b2.mono omh)
    have s2 := c2.size
    have bb2 := H_bb1.out.trans (c2.mono H_bb1.out.size)
    have j2 := H_j1.out.below c2
    have r2 := H_r1.out.below c2
    have t2 := H_t1.out.below c2
    have m2 := H_m1.out.below c2
    have ⟨H_b2, H_c2, H_bb2, H_j2, H_r2, H_t2, H_m2⟩ := hid7 b2 c2 bb2 j2 r2 t2 m2; clear b2 c2 bb2 j2 r2 t2 m2
    clear u0 u1 u2 u3 u4 u5
    have u0 := (H_j2.out 0 _ rfl).at
    have u1 := (H_j2.out 1 _ rfl).at
    have u2 := (H_j2.out 2 _ rfl).at
    have u3 := (H_j2.out 3 _ rfl).at
    have u4 := (H_j2.out 4 _ rfl).at
    have u5 := (H_j2.out 5 _ rfl).at
    go_wp2_with fail
    (with_reducible refine (H_q4.out _ ?_ ?_ ?_).mono ?_)
    · exact H_r2.out.below (show Below w2.heap.size w2 _ from belt)
    · exact H_t2.out.below (show Below w2.heap.size w2 _ from belt)
    · exact H_m2.out.below (show Below w2.heap.size w2 _ from belt)
    rintro e w3 ⟨rfl, b3⟩
    have c3 : Below w2.heap.size w2 w3 := Below.trans belt (b3.mono omh)
    have s3 := c3.size
    have bb3 := H_bb2.out.trans (c3.mono H_bb2.out.size)
    have ⟨H_b3, H_c3, H_bb3⟩ := hid3 b3 c3 bb3; clear b3 c3 bb3
    go_wp2_with fail
    go_ret2
    exact ⟨rfl, H_bb3.out⟩
  | true =>
    have e1 : FE = 0 := by rw [hEx]; rfl
    subst e1
    have eD := H_hD.out
    have q6 := H_q5.out (by have := H_sf1.out rfl; rw [H_hln.out] at this; exact this) (H_sl1.out rfl) (H_sl2.out rfl)
    have qn1 : (q : Int) ≤ (cp : Int) := by omega
    have qn2 : (q : Int) ≤ (cq : Int) := by omega
    have z0 : (0 : Int) ≤ (q : Int) := by omega
    have fin : (decide ((0 : Int) = 0) && DF) = !EQ := by rw [eD]; simp
    rw [fin]
    have ⟨H_hEx, H_eD, H_q6, H_fin⟩ := hid4 hEx eD q6 fin; clear hEx eD q6 fin
    go_enter Tryd.func24, Tryd.ntmps24
    go_upto_region 1 with (fail)
    rw [H_hw0.out]
    go_wp2_with fail
    (with_reducible refine (H_q1.out _).mono ?_)
    rintro e w_ ⟨rfl, hw_⟩
    subst hw_
    go_wp2_with fail
    (with_reducible refine (H_q2.out _).mono ?_)
    rintro e w1 ⟨rfl, b1⟩
    have c1 : Below w0.heap.size w0 w1 := Below.trans belt (b1.mono omh)
    have s1 := c1.size
    have bb1 := H_bb0.out.trans (c1.mono H_bb0.out.size)
    have k1 := H_k0.out.below c1
    have j1 := H_j0.out.below c1
    have l1 := H_l0.out.below c1
    have r1 := H_r0.out.below c1
    have t1 := H_t0.out.below c1
    have m1 := H_m0.out.below c1
    have ⟨H_b1, H_c1, H_bb1, H_k1, H_j1, H_l1, H_r1, H_t1⟩ := hid8 b1 c1 bb1 k1 j1 l1 r1 t1; clear b1 c1 bb1 k1 j1 l1 r1 t1; have H_m1 := Lib.hid m1; clear m1
    have u0 := (H_k1.out 0 _ rfl).at
    have u1 := (H_k1.out 1 _ rfl).at
    have u2 := (H_k1.out 2 _ rfl).at
    have u3 := (H_k1.out 3 _ rfl).at
    have u4 := (H_k1.out 4 _ rfl).at
    have u5 := (H_k1.out 5 _ rfl).at
    go_wp2_with fail
    (with_reducible refine (H_q3.out _ ?_ ?_ ?_).mono ?_)
    · exact H_l1.out.below (show Below w1.heap.size w1 _ from belt)
    · exact H_t1.out.below (show Below w1.heap.size w1 _ from belt)
    · exact H_m1.out.below (show Below w1.heap.size w1 _ from belt)
    rintro e w2 ⟨rfl, b2⟩
    have c2 : Below w1.heap.size w1 w2 := Below.trans belt (b2.mono omh)
    have s2 := c2.size
    have bb2 := H_bb1.out.trans (c2.mono H_bb1.out.size)
    have k2 := H_k1.out.below c2
    have j2 := H_j1.out.below c2
    have l2 := H_l1.out.below c2
    have r2 := H_r1.out.below c2
    have t2 := H_t1.out.below c2
    have m2 := H_m1.out.below c2
    have ⟨H_b2, H_c2, H_bb2, H_k2, H_j2, H_l2, H_r2, H_t2⟩ := hid8 b2 c2 bb2 k2 j2 l2 r2 t2; clear b2 c2 bb2 k2 j2 l2 r2 t2; have H_m2 := Lib.hid m2; clear m2
    clear u0 u1 u2 u3 u4 u5
    have u0 := (H_j2.out 0 _ rfl).at
    have u1 := (H_j2.out 1 _ rfl).at
    have u2 := (H_j2.out 2 _ rfl).at
    have u3 := (H_j2.out 3 _ rfl).at
    have u4 := (H_j2.out 4 _ rfl).at
    have u5 := (H_j2.out 5 _ rfl).at
    go_wp2_with fail
    (with_reducible refine (H_q4.out _ ?_ ?_ ?_).mono ?_)
    · exact H_r2.out.below (show Below w2.heap.size w2 _ from belt)
    · exact H_t2.out.below (show Below w2.heap.size w2 _ from belt)
    · exact H_m2.out.below (show Below w2.heap.size w2 _ from belt)
    rintro e w3 ⟨rfl, b3⟩
    have c3 : Below w2.heap.size w2 w3 := Below.trans belt (b3.mono omh)
    have s3 := c3.size
    have bb3 := H_bb2.out.trans (c3.mono H_bb2.out.size)
    have k3 := H_k2.out.below c3
    have j3 := H_j2.out.below c3
    have l3 := H_l2.out.below c3
    have r3 := H_r2.out.below c3
    have t3 := H_t2.out.below c3
    have m3 := H_m2.out.below c3
    have ⟨H_b3, H_c3, H_bb3, H_k3, H_j3, H_l3, H_r3, H_t3⟩ := hid8 b3 c3 bb3 k3 j3 l3 r3 t3; clear b3 c3 bb3 k3 j3 l3 r3 t3; have H_m3 := Lib.hid m3; clear m3
    clear u0 u1 u2 u3 u4 u5
    have u0 := (H_k3.out 0 _ rfl).at
    have u1 := (H_k3.out 1 _ rfl).at
    have u2 := (H_k3.out 2 _ rfl).at
    have u3 := (H_k3.out 3 _ rfl).at
    have u4 := (H_k3.out 4 _ rfl).at
    have u5 := (H_k3.out 5 _ rfl).at
    have v0 := (H_j3.out 0 _ rfl).at
    have v1 := (H_j3.out 1 _ rfl).at
    have v2 := (H_j3.out 2 _ rfl).at
    have v3 := (H_j3.out 3 _ rfl).at
    have v4 := (H_j3.out 4 _ rfl).at
    have v5 := (H_j3.out 5 _ rfl).at
    have lt3 := H_l3.out.take q
    have zk3 := (H_k3.out 0 _ rfl).lt
    have zj3 := (H_j3.out 0 _ rfl).lt
    have rt3 := H_r3.out.take q
    have ⟨H_lt3, H_rt3⟩ := hid2 lt3 rt3; clear lt3 rt3
    go_upto_region 6 with (fail)
    refine wp_region_held_drew (S := (fun W => (∀ b o, b < w3.heap.size → W.cell? ⟨b, o, none⟩ = w3.cell? ⟨b, o, none⟩) ∧ Below w3.heap.size w3 W)) (by kernel_rfl) ?_ (fun hHeld => ?_)
    · (try dsimp only); (first | (refine ext_mk ?_; exact belt))
    refine take_at (i := 0) (some 41) rfl rfl (by kernel_rfl) (fun _ _ _ h => h) (by rfl) (v := ?_) ?_ (by assumption) ?_
    rotate_left
    · intro W hSw; (try dsimp only at hSw); go_simp; (try with_reducible rfl)
    (try simp only [apz])
    refine take_at (i := 1) (some 42) rfl rfl (by kernel_rfl) (fun _ _ _ h => h) (by rfl) (v := ?_) ?_ (by assumption) ?_
    rotate_left
    · intro W hSw; (try dsimp only at hSw); go_simp; (try with_reducible rfl)
    (try simp only [apz])
    refine take_at (i := 2) (some 43) rfl rfl (by kernel_rfl) (fun _ _ _ h => h) (by rfl) (v := ?_) ?_ (by assumption) ?_
    rotate_left
    · intro W hSw; (try dsimp only at hSw); go_simp; (try with_reducible rfl)
    (try simp only [apz])
    refine take_at (i := 3) (some 44) rfl rfl (by kernel_rfl) (fun _ _ _ h => h) (by rfl) (v := ?_) ?_ (by assumption) ?_
    rotate_left
    · intro W hSw; (try dsimp only at hSw); go_simp; (try with_reducible rfl)
    (try simp only [apz])
    refine take_at (i := 4) (some 45) rfl rfl (by kernel_rfl) (fun _ _ _ h => h) (by rfl) (v := ?_) ?_ (by assumption) ?_
    rotate_left
    · intro W hSw; (try dsimp only at hSw); go_simp; (try with_reducible rfl)
    (try simp only [apz])
    refine take_at (i := 5) (some 46) rfl rfl (by kernel_rfl) (fun _ _ _ h => h) (by rfl) (v := ?_) ?_ (by assumption) ?_
    rotate_left
    · intro W hSw; (try dsimp only at hSw); go_simp; (try with_reducible rfl)
    (try simp only [apz])
    refine take_at (i := 6) (some 47) rfl rfl (by kernel_rfl) (fun _ _ _ h => h) (by rfl) (v := ?_) ?_ (by assumption) ?_
    rotate_left
    · intro W hSw; (try dsimp only at hSw); go_simp; (try with_reducible rfl)
    (try simp only [apz])
    refine take_at (i := 7) (some 48) rfl rfl (by kernel_rfl) (fun _ _ _ h => h) (by rfl) (v := ?_) ?_ (by assumption) ?_
    rotate_left
    · intro W hSw; (try dsimp only at hSw); go_simp; (try with_reducible rfl)
    (try simp only [apz])
    refine wpAnyH_ready (rs := [8]) (by kernel_rfl) (by simp) ?_
    refine AllReadyH.cons rfl (fun K hK => ?_) AllReadyH.nil
    go_simp
    (go_at_call 51; (with_reducible refine (H_q6.out _ ?_ ?_).mono ?_); (focus (exact H_lt3.out.below (And.right (by assumption : _ ∧ Below w3.heap.size w3 _)))); (focus (exact H_rt3.out.below (And.right (by assumption : _ ∧ Below w3.heap.size w3 _)))); rintro e w4 ⟨rfl, hbw4⟩; have gw4 := Below.trans (And.right (by assumption : _ ∧ Below w3.heap.size w3 _)) (hbw4.mono (Below.size (And.right (by assumption : _ ∧ Below w3.heap.size w3 _)))); have gsw4 := gw4.size; have hcf := bcell hbw4; have hcw4 := hcf.1; have hfw4 := hcf.2; have hsw4 := hbw4.size; (try simp only [World.size_alloc, World.heap_drewN, heap_drew] at hsw4); clear hbw4 hcf; (try have hzw4 : w3.heap.size < w4.heap.size := by omega))
    refine hK.out _ _ ?_ (fun hHeld => ?_)
    · (try dsimp only); (first | (refine ext_mk ?_; exact belt))
    clear hK K
    (try simp only [apz])
    refine take_at (i := 9) (some 11) rfl rfl (by kernel_rfl) (fun _ _ _ h => h) (by rfl) (v := ?_) ?_ (by assumption) ?_
    rotate_left
    · intro W hSw; (try dsimp only at hSw); go_simp; (try with_reducible rfl)
    (try simp only [apz])
    refine wpAnyH_done (by kernel_rfl) ?_ _
    have gF : Below w3.heap.size w3 _ := And.right (by assumption)
    have gG := H_bb3.out.trans (gF.mono H_bb3.out.size)
    have ⟨H_gF, H_gG⟩ := hid2 gF gG; clear gF gG
    go_wp2_with fail
    go_ret2
    exact ⟨by first | trivial | rfl, H_gG.out⟩
set_option maxRecDepth 100000 in
set_option maxHeartbeats 16000000 in
theorem rRight_any (A : Option Addr) (cp n : Nat) (ms : List Msg) (h : Hd) (party pub : Int) (hln : ms.length = n) (hn : n ≤ 9223372036854775807) (hf : HFit h) (w : World) (hl : Msgs w A ms) :
    Calls Tryd.prog 50 #[.agg #[.slice A n cp, .int .i64 h.p, .int .i64 h.n, .int .u64 h.c, .int .i64 h.e, .int .i64 h.s], .int .i64 party, .int .i64 pub] w fun e w' => e = .returned (.bool (sgdB ms h party pub)) ∧ Below w.heap.size w w' := by
  obtain ⟨w0, hw0⟩ : ∃ W, w.alloc (.cells #[.slice A n cp, .int .i64 h.p, .int .i64 h.n, .int .u64 h.c, .int .i64 h.e, .int .i64 h.s] 35) = W := ⟨_, rfl⟩
  have bb0 : Below w.heap.size w w0 := by rw [← hw0]; exact (Below.refl _ _).alloc (Nat.le_refl _) _
  have k0 : Blk w0 w.heap.size #[.slice A n cp, .int .i64 h.p, .int .i64 h.n, .int .u64 h.c, .int .i64 h.e, .int .i64 h.s] := by rw [← hw0]; exact blk_new rfl
  have l0 := hl.below bb0
  have s0 : w.heap.size < w0.heap.size := by rw [← hw0]; simp
  have q1 := fun W h1 => rForm_any A cp n ms h party hln hn hf W h1
  cases hF : frmB ms h party with
  | false =>
    have e : sgdB ms h party pub = false := by simp [sgdB, hF]
    rw [hF] at q1
    rw [e]
    have ⟨H_hw0, H_bb0, H_k0, H_l0, H_hl, H_hln, H_hf, H_q1⟩ := hid8 hw0 bb0 k0 l0 hl hln hf q1; clear hw0 bb0 k0 l0 hl hln hf q1; have ⟨H_hF, H_e⟩ := hid2 hF e; clear hF e
    go_enter Tryd.func50, Tryd.ntmps50
    go_upto_region 1 with (fail)
    rw [H_hw0.out]
    have v0 := (H_k0.out 0 _ rfl).at
    have v1 := (H_k0.out 1 _ rfl).at
    have v2 := (H_k0.out 2 _ rfl).at
    have v3 := (H_k0.out 3 _ rfl).at
    have v4 := (H_k0.out 4 _ rfl).at
    have v5 := (H_k0.out 5 _ rfl).at
    go_wp2_with fail
    (with_reducible refine (H_q1.out _ ?_).mono ?_)
    · exact H_l0.out.below (show Below w0.heap.size w0 _ from belt)
    rintro e w1 ⟨rfl, b1⟩
    have c1 : Below w0.heap.size w0 w1 := Below.trans belt (b1.mono omh)
    have s1 := c1.size
    have bb1 := H_bb0.out.trans (c1.mono H_bb0.out.size)
    have ⟨H_b1, H_c1, H_bb1⟩ := hid3 b1 c1 bb1; clear b1 c1 bb1
    go_wp2_with fail
    go_ret
    exact ⟨rfl, H_bb1.out⟩
  | true =>
    rw [hF] at q1
    by_cases hz : n = 0
    · have hnil : ms = [] := List.eq_nil_of_length_eq_zero (hln.trans hz)
      have e : sgdB ms h party pub = true := by simp [sgdB, hF, hnil]; rw [← hnil]; exact hF
      rw [e]
      have i1 : ((n : Int) == 0) = true := by rw [hz]; rfl
      have ⟨H_hw0, H_bb0, H_k0, H_l0, H_hl, H_hln, H_hf, H_q1⟩ := hid8 hw0 bb0 k0 l0 hl hln hf q1; clear hw0 bb0 k0 l0 hl hln hf q1; have ⟨H_hF, H_e, H_hz, H_hnil⟩ := hid4 hF e hz hnil; clear hF e hz hnil
      go_enter Tryd.func50, Tryd.ntmps50
      go_upto_region 1 with (fail)
      rw [H_hw0.out]
      have v0 := (H_k0.out 0 _ rfl).at
      have v1 := (H_k0.out 1 _ rfl).at
      have v2 := (H_k0.out 2 _ rfl).at
      have v3 := (H_k0.out 3 _ rfl).at
      have v4 := (H_k0.out 4 _ rfl).at
      have v5 := (H_k0.out 5 _ rfl).at
      go_wp2_with fail
      (with_reducible refine (H_q1.out _ ?_).mono ?_)
      · exact H_l0.out.below (show Below w0.heap.size w0 _ from belt)
      rintro e w1 ⟨rfl, b1⟩
      have c1 : Below w0.heap.size w0 w1 := Below.trans belt (b1.mono omh)
      have s1 := c1.size
      have bb1 := H_bb0.out.trans (c1.mono H_bb0.out.size)
      have k1 := H_k0.out.below c1
      have ⟨H_b1, H_c1, H_bb1, H_k1⟩ := hid4 b1 c1 bb1 k1; clear b1 c1 bb1 k1
      clear v0 v1 v2 v3 v4 v5
      have v0 := (H_k1.out 0 _ rfl).at
      have v1 := (H_k1.out 1 _ rfl).at
      have v2 := (H_k1.out 2 _ rfl).at
      have v3 := (H_k1.out 3 _ rfl).at
      have v4 := (H_k1.out 4 _ rfl).at
      have v5 := (H_k1.out 5 _ rfl).at
      go_wp2_with fail
      go_ret
      exact ⟨rfl, H_bb1.out⟩
    · have hne : ms ≠ [] := by intro e; rw [e] at hln; simp at hln; omega
      have e : sgdB ms h party pub = verV pub h.e h.s (sayI h) := by simp [sgdB, hF, hne]
      rw [e]
      have i1 : ((n : Int) == 0) = false := by rw [beq_eq_false_iff_ne]; omega
      have q3 := fun W => rSays_any h hf W
      unfold New4 at q3
      have e3 : h.cells.toArray = #[.int .i64 h.p, .int .i64 h.n, .int .u64 h.c, .int .i64 h.e, .int .i64 h.s] := rfl
      rw [e3] at q3
      have q4 := fun W X h1 => rverify_all pub h.e h.s X 4 4 (sayI h) rfl W h1 (by omega) (say_fit hf)
      have hv0 := ver_err (p := pub) (e := h.e) (s := h.s) (l := sayI h)
      clear e3
      generalize hV : verV pub h.e h.s (sayI h) = V at *
      generalize hE : errV (okB pub h.e h.s) = E at *
      generalize hSY : sayI h = SY at *
      have ⟨H_hw0, H_bb0, H_k0, H_l0, H_hl, H_hln, H_hf, H_q1⟩ := hid8 hw0 bb0 k0 l0 hl hln hf q1; clear hw0 bb0 k0 l0 hl hln hf q1; have ⟨H_q3, H_q4, H_hF, H_e, H_hz, H_hV, H_hE, H_hSY⟩ := hid8 q3 q4 hF e hz hV hE hSY; clear q3 q4 hF e hz hV hE hSY
      go_enter Tryd.func50, Tryd.ntmps50
      go_upto_region 1 with (fail)
      rw [H_hw0.out]
      have v0 := (H_k0.out 0 _ rfl).at
      have v1 := (H_k0.out 1 _ rfl).at
      have v2 := (H_k0.out 2 _ rfl).at
      have v3 := (H_k0.out 3 _ rfl).at
      have v4 := (H_k0.out 4 _ rfl).at
      have v5 := (H_k0.out 5 _ rfl).at
      go_wp2_with fail
      (with_reducible refine (H_q1.out _ ?_).mono ?_)
      · exact H_l0.out.below (show Below w0.heap.size w0 _ from belt)
      rintro e w1 ⟨rfl, b1⟩
      have c1 : Below w0.heap.size w0 w1 := Below.trans belt (b1.mono omh)
      have s1 := c1.size
      have bb1 := H_bb0.out.trans (c1.mono H_bb0.out.size)
      have k1 := H_k0.out.below c1
      have ⟨H_b1, H_c1, H_bb1, H_k1⟩ := hid4 b1 c1 bb1 k1; clear b1 c1 bb1 k1
      clear v0 v1 v2 v3 v4 v5
      have v0 := (H_k1.out 0 _ rfl).at
      have v1 := (H_k1.out 1 _ rfl).at
      have v2 := (H_k1.out 2 _ rfl).at
      have v3 := (H_k1.out 3 _ rfl).at
      have v4 := (H_k1.out 4 _ rfl).at
      have v5 := (H_k1.out 5 _ rfl).at
      have z1 : w.heap.size < w1.heap.size := by omega
      go_upto_region 5 with (fail)
      refine wp_region_held_drew (S := (fun W => (∀ b o, b < w1.heap.size → W.cell? ⟨b, o, none⟩ = w1.cell? ⟨b, o, none⟩) ∧ Below w1.heap.size w1 W)) (by kernel_rfl) ?_ (fun hHeld => ?_)
      · (try dsimp only); (first | (refine ext_mk ?_; exact belt))
      refine take_at (i := 0) (some 18) rfl rfl (by kernel_rfl) (fun _ _ _ h => h) (by rfl) (v := ?_) ?_ (by assumption) ?_
      rotate_left
      · intro W hSw; (try dsimp only at hSw); go_simp; (try with_reducible rfl)
      (try simp only [apz])
      refine take_at (i := 1) (some 19) rfl rfl (by kernel_rfl) (fun _ _ _ h => h) (by rfl) (v := ?_) ?_ (by assumption) ?_
      rotate_left
      · intro W hSw; (try dsimp only at hSw); go_simp; (try with_reducible rfl)
      (try simp only [apz])
      refine take_at (i := 2) (some 20) rfl rfl (by kernel_rfl) (fun _ _ _ h => h) (by rfl) (v := ?_) ?_ (by assumption) ?_
      rotate_left
      · intro W hSw; (try dsimp only at hSw); go_simp; (try with_reducible rfl)
      (try simp only [apz])
      refine take_at (i := 3) (some 21) rfl rfl (by kernel_rfl) (fun _ _ _ h => h) (by rfl) (v := ?_) ?_ (by assumption) ?_
      rotate_left
      · intro W hSw; (try dsimp only at hSw); go_simp; (try with_reducible rfl)
      (try simp only [apz])
      refine take_at (i := 4) (some 22) rfl rfl (by kernel_rfl) (fun _ _ _ h => h) (by rfl) (v := ?_) ?_ (by assumption) ?_
      rotate_left
      · intro W hSw; (try dsimp only at hSw); go_simp; (try with_reducible rfl)
      (try simp only [apz])
      refine take_at (i := 5) (some 23) rfl rfl (by kernel_rfl) (fun _ _ _ h => h) (by rfl) (v := ?_) ?_ (by assumption) ?_
      rotate_left
      · intro W hSw; (try dsimp only at hSw); go_simp; (try with_reducible rfl)
      (try simp only [apz])
      refine wpAnyH_ready (rs := [6]) (by kernel_rfl) (by simp) ?_
      refine AllReadyH.cons rfl (fun K hK => ?_) AllReadyH.nil
      go_simp
      (first | ((go_at_call 48; (with_reducible refine (H_q3.out _).mono ?_); rintro e w2 ⟨b2, rfl, hi2, hbw2⟩; have gw2 := Below.trans (And.right (by assumption : _ ∧ Below w1.heap.size w1 _)) (hbw2.mono (Below.size (And.right (by assumption : _ ∧ Below w1.heap.size w1 _)))); have gsw2 := gw2.size; have hcf := bcell hbw2; have hcw2 := hcf.1; have hfw2 := hcf.2; have hsw2 := hbw2.size; (try simp only [World.size_alloc, World.heap_drewN, heap_drew] at hsw2); clear hbw2 hcf; (try have hzw2 : w1.heap.size < w2.heap.size := by omega))) | (go_at_call 67; (with_reducible refine (H_q4.out _ _ hi2).mono ?_); rintro e w3 ⟨rfl, hbw3⟩; have gw3 := Below.trans (And.right (by assumption : _ ∧ Below w1.heap.size w1 _)) (hbw3.mono (Below.size (And.right (by assumption : _ ∧ Below w1.heap.size w1 _)))); have gsw3 := gw3.size; have hcf := bcell hbw3; have hcw3 := hcf.1; have hfw3 := hcf.2; have hsw3 := hbw3.size; (try simp only [World.size_alloc, World.heap_drewN, heap_drew] at hsw3); clear hbw3 hcf; (try have hzw3 : w1.heap.size < w3.heap.size := by omega)))
      refine hK.out _ _ ?_ (fun hHeld => ?_)
      · (try dsimp only); (first | (refine ext_mk ?_; exact belt))
      clear hK K
      (try simp only [apz])
      refine wpAnyH_ready (rs := [7]) (by kernel_rfl) (by simp) ?_
      refine AllReadyH.cons rfl (fun K hK => ?_) AllReadyH.nil
      go_simp
      (first | ((go_at_call 48; (with_reducible refine (H_q3.out _).mono ?_); rintro e w2 ⟨b2, rfl, hi2, hbw2⟩; have gw2 := Below.trans (And.right (by assumption : _ ∧ Below w1.heap.size w1 _)) (hbw2.mono (Below.size (And.right (by assumption : _ ∧ Below w1.heap.size w1 _)))); have gsw2 := gw2.size; have hcf := bcell hbw2; have hcw2 := hcf.1; have hfw2 := hcf.2; have hsw2 := hbw2.size; (try simp only [World.size_alloc, World.heap_drewN, heap_drew] at hsw2); clear hbw2 hcf; (try have hzw2 : w1.heap.size < w2.heap.size := by omega))) | (go_at_call 67; (with_reducible refine (H_q4.out _ _ hi2).mono ?_); rintro e w3 ⟨rfl, hbw3⟩; have gw3 := Below.trans (And.right (by assumption : _ ∧ Below w1.heap.size w1 _)) (hbw3.mono (Below.size (And.right (by assumption : _ ∧ Below w1.heap.size w1 _)))); have gsw3 := gw3.size; have hcf := bcell hbw3; have hcw3 := hcf.1; have hfw3 := hcf.2; have hsw3 := hbw3.size; (try simp only [World.size_alloc, World.heap_drewN, heap_drew] at hsw3); clear hbw3 hcf; (try have hzw3 : w1.heap.size < w3.heap.size := by omega)))
      refine hK.out _ _ ?_ (fun hHeld => ?_)
      · (try dsimp only); (first | (refine ext_mk ?_; exact belt))
      clear hK K
      (try simp only [apz])
      refine take_at (i := 8) (some 17) rfl rfl (by kernel_rfl) (fun _ _ _ h => h) (by rfl) (v := ?_) ?_ (by assumption) ?_
      rotate_left
      · intro W hSw; (try dsimp only at hSw); go_simp; (try with_reducible rfl)
      (try simp only [apz])
      refine take_at (i := 9) (some 26) rfl rfl (by kernel_rfl) (fun _ _ _ h => h) (by rfl) (v := ?_) ?_ (by assumption) ?_
      rotate_left
      · intro W hSw; (try dsimp only at hSw); go_simp; (try with_reducible rfl)
      (try simp only [apz])
      refine take_at (i := 10) (some 27) rfl rfl (by kernel_rfl) (fun _ _ _ h => h) (by rfl) (v := ?_) ?_ (by assumption) ?_
      rotate_left
      · intro W hSw; (try dsimp only at hSw); go_simp; (try with_reducible rfl)
      (try simp only [apz])
      refine take_at (i := 11) (some 7) rfl rfl (by kernel_rfl) (fun _ _ _ h => h) (by rfl) (v := ?_) ?_ (by assumption) ?_
      rotate_left
      · intro W hSw; (try dsimp only at hSw); go_simp; (try with_reducible rfl)
      (try simp only [apz])
      refine take_at (i := 12) (some 8) rfl rfl (by kernel_rfl) (fun _ _ _ h => h) (by rfl) (v := ?_) ?_ (by assumption) ?_
      rotate_left
      · intro W hSw; (try dsimp only at hSw); go_simp; (try with_reducible rfl)
      (try simp only [apz])
      refine wpAnyH_done (by kernel_rfl) ?_ _
      have gF : Below w1.heap.size w1 _ := And.right (by assumption)
      have gG := H_bb1.out.trans (gF.mono H_bb1.out.size)
      cases V with
      | false =>
        have ⟨H_gF, H_gG, H_hv0⟩ := hid3 gF gG hv0; clear gF gG hv0
        go_wp2_with fail
        go_ret
        exact ⟨rfl, H_gG.out⟩
      | true =>
        have hE0 := hv0 rfl
        subst hE0
        have ⟨H_gF, H_gG, H_hv0⟩ := hid3 gF gG hv0; clear gF gG hv0
        go_wp2_with fail
        go_ret
        exact ⟨rfl, H_gG.out⟩
set_option maxRecDepth 100000 in
set_option maxHeartbeats 16000000 in
theorem rCheck_any (A : Option Addr) (cp n : Nat) (ms : List Msg) (h : Hd) (party pub : Int) (hln : ms.length = n) (hn : n ≤ 9223372036854775807) (hf : HFit h) (w : World) (hl : Msgs w A ms) :
    Calls Tryd.prog 23 #[.agg #[.slice A n cp, .int .i64 h.p, .int .i64 h.n, .int .u64 h.c, .int .i64 h.e, .int .i64 h.s], .int .i64 party, .int .i64 pub] w fun e w' => e = .returned (.tuple #[.bool (chkV ms h party pub), .int .i64 (chkE party pub)]) ∧ Below w.heap.size w w' := by
  obtain ⟨w0, hw0⟩ : ∃ W, w.alloc (.cells #[.slice A n cp, .int .i64 h.p, .int .i64 h.n, .int .u64 h.c, .int .i64 h.e, .int .i64 h.s] 35) = W := ⟨_, rfl⟩
  have bb0 : Below w.heap.size w w0 := by rw [← hw0]; exact (Below.refl _ _).alloc (Nat.le_refl _) _
  have k0 : Blk w0 w.heap.size #[.slice A n cp, .int .i64 h.p, .int .i64 h.n, .int .u64 h.c, .int .i64 h.e, .int .i64 h.s] := by rw [← hw0]; exact blk_new rfl
  have l0 := hl.below bb0
  have q1 := fun W => rParty_any party W
  have q2 := fun W => rmember_any pub W
  have q3 := fun W h1 => rRight_any A cp n ms h party pub hln hn hf W h1
  cases hP : ptyB party with
  | false =>
    have e1 : chkE party pub = 1 := by simp [chkE, hP]
    have e2 : chkV ms h party pub = false := by simp [chkV, e1]
    rw [hP] at q1
    rw [e1, e2]
    have ⟨H_hw0, H_bb0, H_k0, H_l0, H_hl, H_hln, H_hf, H_q1⟩ := hid8 hw0 bb0 k0 l0 hl hln hf q1; clear hw0 bb0 k0 l0 hl hln hf q1; have ⟨H_q2, H_q3, H_hP, H_e1, H_e2⟩ := hid5 q2 q3 hP e1 e2; clear q2 q3 hP e1 e2
    go_enter Tryd.func23, Tryd.ntmps23
    go_upto_region 1 with (fail)
    rw [H_hw0.out]
    go_wp2_with fail
    (with_reducible refine (H_q1.out _).mono ?_)
    rintro e w_ ⟨rfl, hw_⟩
    subst hw_
    go_wp2_with fail
    go_ret2
    exact ⟨rfl, H_bb0.out⟩
  | true =>
  rw [hP] at q1
  cases hM : memZ pub with
  | false =>
    have e1 : chkE party pub = 1 := by simp [chkE, hM]
    have e2 : chkV ms h party pub = false := by simp [chkV, e1]
    rw [hM] at q2
    rw [e1, e2]
    have ⟨H_hw0, H_bb0, H_k0, H_l0, H_hl, H_hln, H_hf, H_q1⟩ := hid8 hw0 bb0 k0 l0 hl hln hf q1; clear hw0 bb0 k0 l0 hl hln hf q1; have ⟨H_q2, H_q3, H_hP, H_hM, H_e1, H_e2⟩ := hid6 q2 q3 hP hM e1 e2; clear q2 q3 hP hM e1 e2
    go_enter Tryd.func23, Tryd.ntmps23
    go_upto_region 1 with (fail)
    rw [H_hw0.out]
    go_wp2_with fail
    (with_reducible refine (H_q1.out _).mono ?_)
    rintro e w_ ⟨rfl, hw_⟩
    subst hw_
    go_wp2_with fail
    (with_reducible refine (H_q2.out _).mono ?_)
    rintro e w_ ⟨rfl, hw_⟩
    subst hw_
    go_wp2_with fail
    go_ret2
    exact ⟨rfl, H_bb0.out⟩
  | true =>
    have e1 : chkE party pub = 0 := by simp [chkE, hP, hM]
    have e2 : chkV ms h party pub = sgdB ms h party pub := by simp [chkV, e1]
    rw [hM] at q2
    rw [e1, e2]
    generalize sgdB ms h party pub = R at *
    have ⟨H_hw0, H_bb0, H_k0, H_l0, H_hl, H_hln, H_hf, H_q1⟩ := hid8 hw0 bb0 k0 l0 hl hln hf q1; clear hw0 bb0 k0 l0 hl hln hf q1; have ⟨H_q2, H_q3, H_hP, H_hM, H_e1, H_e2⟩ := hid6 q2 q3 hP hM e1 e2; clear q2 q3 hP hM e1 e2
    go_enter Tryd.func23, Tryd.ntmps23
    go_upto_region 1 with (fail)
    rw [H_hw0.out]
    go_wp2_with fail
    (with_reducible refine (H_q1.out _).mono ?_)
    rintro e w_ ⟨rfl, hw_⟩
    subst hw_
    go_wp2_with fail
    (with_reducible refine (H_q2.out _).mono ?_)
    rintro e w_ ⟨rfl, hw_⟩
    subst hw_
    have v0 := (H_k0.out 0 _ rfl).at
    have v1 := (H_k0.out 1 _ rfl).at
    have v2 := (H_k0.out 2 _ rfl).at
    have v3 := (H_k0.out 3 _ rfl).at
    have v4 := (H_k0.out 4 _ rfl).at
    have v5 := (H_k0.out 5 _ rfl).at
    go_wp2_with fail
    (with_reducible refine (H_q3.out _ ?_).mono ?_)
    · exact H_l0.out.below (show Below w0.heap.size w0 _ from belt)
    rintro e w1 ⟨rfl, b1⟩
    have c1 : Below w0.heap.size w0 w1 := Below.trans belt (b1.mono omh)
    have s1 := c1.size
    have bb1 := H_bb0.out.trans (c1.mono H_bb0.out.size)
    have ⟨H_b1, H_c1, H_bb1⟩ := hid3 b1 c1 bb1; clear b1 c1 bb1
    go_wp2_with fail
    go_ret2
    exact ⟨rfl, H_bb1.out⟩
/-- messages that are not too many, nor too long -/
def fwmB (ms : List Msg) : Bool := decide (ms.length ≤ 60) && ms.all (fun m => decide (m.a.length ≤ 40))
theorem fwm_parts {ms : List Msg} (h : fwmB ms = true) : ms.length ≤ 60 ∧ ∀ m ∈ ms, m.a.length ≤ 40 := by
  simp only [fwmB, Bool.and_eq_true, decide_eq_true_eq, List.all_eq_true] at h
  exact h
set_option maxRecDepth 100000 in
set_option maxHeartbeats 8000000 in
theorem rFew_any (A : Option Addr) (cp n : Nat) (ms : List Msg) (hln : ms.length = n) (hn : n ≤ 9223372036854775807) (w : World) (hl : Msgs w A ms) :
    Calls Tryd.prog 19 #[.slice A n cp] w fun e w' => e = .returned (.bool (fwmB ms)) ∧ w = w' := by
  have hyes : (∀ j, j < n → ∀ m, ms[j]? = some m → m.a.length ≤ 40) → fwmB ms = decide ((n : Int) ≤ 60) := fun h => by
    have : ms.all (fun m => decide (m.a.length ≤ 40)) = true := by
      rw [List.all_eq_true]
      intro m hm
      obtain ⟨i, hi, rfl⟩ := List.getElem_of_mem hm
      exact decide_eq_true (h i (by omega) _ (List.getElem?_eq_getElem hi))
    rw [fwmB, this, Bool.and_true, hln]
    rw [Bool.eq_iff_iff, decide_eq_true_eq, decide_eq_true_eq]; omega
  have hno : ∀ m ∈ ms, 40 < m.a.length → fwmB ms = false := fun m hm h => by
    rw [Bool.eq_false_iff]
    intro hh
    have := (fwm_parts hh).2 m hm
    omega
  have ⟨H_hl, H_hln, H_hyes, H_hno⟩ := hid4 hl hln hyes hno; clear hl hln hyes hno
  go_enter Tryd.func19, Tryd.ntmps19
  go_upto_region 2 with (fail)
  go_loopw [3] (fun i wr => ∃ k : Nat, k ≤ n ∧ i = .int .i64 k ∧ (∀ j, j < k → ∀ m, ms[j]? = some m → m.a.length ≤ 40) ∧ w = wr) (fun i _ => n - (intOf i).toNat)
  case atStart => exact ⟨0, by omega, rfl, fun j hj => absurd hj (by omega), rfl⟩
  case round =>
    obtain ⟨k, hk, rfl, hall, hw_⟩ := hrel
    subst hw_
    by_cases hlt : k < n
    · have g1 : (k : Int) < (n : Int) := by omega
      have g0 : (0 : Int) ≤ (k : Int) := by omega
      obtain ⟨m, hm⟩ : ∃ m, ms[k]? = some m := ⟨_, List.getElem?_eq_getElem (by rw [H_hln.out]; exact hlt)⟩
      obtain ⟨b, off, hA, hbl, _, c0, c1, c2, c3, c4⟩ := H_hl.out.at hm
      subst hA
      have hno := H_hno.out m (List.mem_of_getElem? hm)
      have hnx : m.a.length ≤ 40 → ∀ j, j < k + 1 → ∀ m, ms[j]? = some m → m.a.length ≤ 40 := fun h j hj y hy => by
        rcases Nat.lt_or_ge j k with h1 | h1
        · exact hall j h1 y hy
        · have : j = k := by omega
          subst this
          rw [hm] at hy
          rw [← Option.some.inj hy]; exact h
      generalize m.a.length = an at *
      by_cases h1 : 40 < an
      · have d1 : decide ((40 : Int) < (an : Int)) = true := decide_eq_true (by omega)
        have d2 : (40 : Int) < (an : Int) := by omega
        have fin := hno h1
        have ⟨H_hall, H_hm, H_hno, H_hnx, H_fin⟩ := hid5 hall hm hno hnx fin; clear hall hm hno hnx fin
        go_wp2_with fail
        go_ret
        exact ⟨ret_bool H_fin.out.symm, rfl⟩
      · have d1 : decide ((40 : Int) < (an : Int)) = false := decide_eq_false (by omega)
        have d2 : ¬ (40 : Int) < (an : Int) := by omega
        have fin := hnx (by omega)
        have ⟨H_hall, H_hm, H_hno, H_hnx, H_fin⟩ := hid5 hall hm hno hnx fin; clear hall hm hno hnx fin
        go_wp2_with fail
        go_roundw
        case rel => exact ⟨k + 1, by omega, by go_num, H_fin.out, by first | trivial | rfl⟩
        case measure => simp [intOf]; omega
    · have g1 : ¬ (k : Int) < (n : Int) := by omega
      have fin := H_hyes.out (fun j hj => hall j (by omega))
      have ⟨H_hall, H_fin⟩ := hid2 hall fin; clear hall fin
      go_wp2_with fail
      go_ret
      exact ⟨ret_bool H_fin.out.symm, rfl⟩
/-- journals that read the same -/
def sameJB (l : List Msg) (h : Hd) (k : List Msg) (g : Hd) : Bool := heqB h g && decide (l.map msI = k.map msI)
set_option maxRecDepth 100000 in
set_option maxHeartbeats 8000000 in
theorem rSameJ_any (A : Option Addr) (cp n : Nat) (ms : List Msg) (h : Hd) (B : Option Addr) (cq k : Nat) (ns : List Msg) (g : Hd) (hln : ms.length = n) (hlk : ns.length = k) (hn : n ≤ 1000000) (hk : k ≤ 1000000) (hf : HFit h) (hg : HFit g) (hla : ∀ x ∈ ms, x.a.length ≤ 1000000) (hma : ∀ x ∈ ns, x.a.length ≤ 1000000) (w : World) (hl : Msgs w A ms) (hm : Msgs w B ns) :
    Calls Tryd.prog 22 #[.agg #[.slice A n cp, .int .i64 h.p, .int .i64 h.n, .int .u64 h.c, .int .i64 h.e, .int .i64 h.s], .agg #[.slice B k cq, .int .i64 g.p, .int .i64 g.n, .int .u64 g.c, .int .i64 g.e, .int .i64 g.s]] w fun e w' => e = .returned (.bool (sameJB ms h ns g)) ∧ Below w.heap.size w w' := by
  obtain ⟨w0, hw0⟩ : ∃ W, (w.alloc (.cells #[.slice A n cp, .int .i64 h.p, .int .i64 h.n, .int .u64 h.c, .int .i64 h.e, .int .i64 h.s] 35)).alloc (.cells #[.slice B k cq, .int .i64 g.p, .int .i64 g.n, .int .u64 g.c, .int .i64 g.e, .int .i64 g.s] 35) = W := ⟨_, rfl⟩
  have bb0 : Below w.heap.size w w0 := by rw [← hw0]; exact ((Below.refl _ _).alloc (Nat.le_refl _) _).alloc (by simp) _
  have k0 : Blk w0 w.heap.size #[.slice A n cp, .int .i64 h.p, .int .i64 h.n, .int .u64 h.c, .int .i64 h.e, .int .i64 h.s] := by rw [← hw0]; exact (blk_new rfl).alloc _
  have j0 : Blk w0 (w.heap.size + 1) #[.slice B k cq, .int .i64 g.p, .int .i64 g.n, .int .u64 g.c, .int .i64 g.e, .int .i64 g.s] := by rw [← hw0]; exact blk_new (by simp)
  have l0 := hl.below bb0
  have m0 := hm.below bb0
  have qe := fun W => eq_head h g hf hg W
  have q1 := fun W h1 h2 => rsameMs_any A cp n ms B cq k ns hln hlk hn hk W h1 h2 hla hma
  have eh : h.cells.toArray = #[.int .i64 h.p, .int .i64 h.n, .int .u64 h.c, .int .i64 h.e, .int .i64 h.s] := rfl
  have eg : g.cells.toArray = #[.int .i64 g.p, .int .i64 g.n, .int .u64 g.c, .int .i64 g.e, .int .i64 g.s] := rfl
  rw [eh, eg] at qe
  have eS : sameJB ms h ns g = (heqB h g && decide (ms.map msI = ns.map msI)) := rfl
  rw [eS]
  clear eS eh eg
  generalize decide (ms.map msI = ns.map msI) = D at *
  generalize heqB h g = R at *
  cases R with
  | false =>
    have ⟨H_hw0, H_bb0, H_k0, H_j0, H_l0, H_m0, H_hl, H_hm⟩ := hid8 hw0 bb0 k0 j0 l0 m0 hl hm; clear hw0 bb0 k0 j0 l0 m0 hl hm; have ⟨H_hln, H_hlk, H_hf, H_hg, H_q1, H_hla, H_hma⟩ := hid7 hln hlk hf hg q1 hla hma; clear hln hlk hf hg q1 hla hma
    go_enter Tryd.func22, Tryd.ntmps22
    go_upto_region 1 with (fail)
    rw [H_hw0.out]
    have u0 := (H_k0.out 0 _ rfl).at
    have u1 := (H_k0.out 1 _ rfl).at
    have u2 := (H_k0.out 2 _ rfl).at
    have u3 := (H_k0.out 3 _ rfl).at
    have u4 := (H_k0.out 4 _ rfl).at
    have u5 := (H_k0.out 5 _ rfl).at
    have v0 := (H_j0.out 0 _ rfl).at
    have v1 := (H_j0.out 1 _ rfl).at
    have v2 := (H_j0.out 2 _ rfl).at
    have v3 := (H_j0.out 3 _ rfl).at
    have v4 := (H_j0.out 4 _ rfl).at
    have v5 := (H_j0.out 5 _ rfl).at
    go_wp2_with fail
    go_ret
    exact ⟨rfl, H_bb0.out⟩
  | true =>
    have ⟨H_hw0, H_bb0, H_k0, H_j0, H_l0, H_m0, H_hl, H_hm⟩ := hid8 hw0 bb0 k0 j0 l0 m0 hl hm; clear hw0 bb0 k0 j0 l0 m0 hl hm; have ⟨H_hln, H_hlk, H_hf, H_hg, H_q1, H_hla, H_hma⟩ := hid7 hln hlk hf hg q1 hla hma; clear hln hlk hf hg q1 hla hma
    go_enter Tryd.func22, Tryd.ntmps22
    go_upto_region 1 with (fail)
    rw [H_hw0.out]
    have u0 := (H_k0.out 0 _ rfl).at
    have u1 := (H_k0.out 1 _ rfl).at
    have u2 := (H_k0.out 2 _ rfl).at
    have u3 := (H_k0.out 3 _ rfl).at
    have u4 := (H_k0.out 4 _ rfl).at
    have u5 := (H_k0.out 5 _ rfl).at
    have v0 := (H_j0.out 0 _ rfl).at
    have v1 := (H_j0.out 1 _ rfl).at
    have v2 := (H_j0.out 2 _ rfl).at
    have v3 := (H_j0.out 3 _ rfl).at
    have v4 := (H_j0.out 4 _ rfl).at
    have v5 := (H_j0.out 5 _ rfl).at
    go_wp2_with fail
    (with_reducible refine (H_q1.out _ ?_ ?_).mono ?_)
    · exact H_l0.out.below (show Below w0.heap.size w0 _ from belt)
    · exact H_m0.out.below (show Below w0.heap.size w0 _ from belt)
    rintro e w1 ⟨rfl, b1⟩
    have c1 : Below w0.heap.size w0 w1 := Below.trans belt (b1.mono omh)
    have s1 := c1.size
    have bb1 := H_bb0.out.trans (c1.mono H_bb0.out.size)
    have ⟨H_b1, H_c1, H_bb1⟩ := hid3 b1 c1 bb1; clear b1 c1 bb1
    go_wp2_with fail
    go_ret
    exact ⟨ret_bool (by simp), H_bb1.out⟩
theorem dif_no {l k : List Msg} (h : ∀ j, j < min l.length k.length → (l.map msI)[j]? = (k.map msI)[j]?) : difB l k = false := by
  have : (l.take (min l.length k.length)).map msI = (k.take (min l.length k.length)).map msI := by
    apply List.ext_getElem?
    intro i
    rw [List.map_take, List.map_take, List.getElem?_take, List.getElem?_take]
    split
    · rename_i hi; exact h i hi
    · rfl
  rw [difB, this]; simp
theorem dif_yes {l k : List Msg} {j : Nat} {x y : Msg} (hj : j < min l.length k.length) (hx : l[j]? = some x) (hy : k[j]? = some y) (hne : msI x ≠ msI y) : difB l k = true := by
  have : ¬ (l.take (min l.length k.length)).map msI = (k.take (min l.length k.length)).map msI := fun h => by
    have h2 := congrArg (fun z => z[j]?) h
    simp only [List.map_take, List.getElem?_take, if_pos hj, List.getElem?_map, hx, hy] at h2
    exact hne (Option.some.inj h2)
  rw [difB, decide_eq_false this]; rfl
set_option maxRecDepth 100000 in
set_option maxHeartbeats 16000000 in
theorem rForks_any (A : Option Addr) (cp n : Nat) (ms : List Msg) (h : Hd) (B : Option Addr) (cq k : Nat) (ns : List Msg) (g : Hd) (party pub : Int) (hln : ms.length = n) (hlk : ns.length = k) (hn : n ≤ 1000000) (hk : k ≤ 1000000) (hf : HFit h) (hg : HFit g) (hla : ∀ x ∈ ms, x.a.length ≤ 1000000) (hma : ∀ x ∈ ns, x.a.length ≤ 1000000) (w : World) (hl : Msgs w A ms) (hm : Msgs w B ns) :
    Calls Tryd.prog 25 #[.agg #[.slice A n cp, .int .i64 h.p, .int .i64 h.n, .int .u64 h.c, .int .i64 h.e, .int .i64 h.s], .agg #[.slice B k cq, .int .i64 g.p, .int .i64 g.n, .int .u64 g.c, .int .i64 g.e, .int .i64 g.s], .int .i64 party, .int .i64 pub] w fun e w' => e = .returned (.tuple #[.bool (frkV ms h ns g party pub), .int .i64 (frkE ms h ns g party pub)]) ∧ Below w.heap.size w w' := by
  obtain ⟨w0, hw0⟩ : ∃ W, (w.alloc (.cells #[.slice A n cp, .int .i64 h.p, .int .i64 h.n, .int .u64 h.c, .int .i64 h.e, .int .i64 h.s] 35)).alloc (.cells #[.slice B k cq, .int .i64 g.p, .int .i64 g.n, .int .u64 g.c, .int .i64 g.e, .int .i64 g.s] 35) = W := ⟨_, rfl⟩
  have bb0 : Below w.heap.size w w0 := by rw [← hw0]; exact ((Below.refl _ _).alloc (Nat.le_refl _) _).alloc (by simp) _
  have k0 : Blk w0 w.heap.size #[.slice A n cp, .int .i64 h.p, .int .i64 h.n, .int .u64 h.c, .int .i64 h.e, .int .i64 h.s] := by rw [← hw0]; exact (blk_new rfl).alloc _
  have j0 : Blk w0 (w.heap.size + 1) #[.slice B k cq, .int .i64 g.p, .int .i64 g.n, .int .u64 g.c, .int .i64 g.e, .int .i64 g.s] := by rw [← hw0]; exact blk_new (by simp)
  have l0 := hl.below bb0
  have r0 := hm.below bb0
  have q1 := fun W => rParty_any party W
  have q2 := fun W => rmember_any pub W
  have q3 := fun W h1 => rRight_any A cp n ms h party pub hln (by omega) hf W h1
  have q4 := fun W h1 => rRight_any B cq k ns g party pub hlk (by omega) hg W h1
  have hE : frkE ms h ns g party pub = if ptyB party = true ∧ memZ pub = true then if sgdB ms h party pub = true ∧ sgdB ns g party pub = true then 0 else 9 else 1 := rfl
  have hV : frkV ms h ns g party pub = (decide (frkE ms h ns g party pub = 0) && difB ms ns) := rfl
  have dn := @dif_no ms ns
  have dy := fun j x y => @dif_yes ms ns j x y
  rw [hln, hlk] at dn dy
  generalize hFV : frkV ms h ns g party pub = FV at *
  generalize hFE : frkE ms h ns g party pub = FE at *
  generalize difB ms ns = DF at *
  generalize h.p = p1 at *
  generalize h.n = p2 at *
  generalize h.c = p3 at *
  generalize h.e = p4 at *
  generalize h.s = p5 at *
  generalize g.p = g1 at *
  generalize g.n = g2 at *
  generalize g.c = g3 at *
  generalize g.e = g4 at *
  generalize g.s = g5 at *
  generalize hP : ptyB party = PB at *
  generalize hM : memZ pub = MB at *
  generalize hS1 : sgdB ms h party pub = S1 at *
  generalize hS2 : sgdB ns g party pub = S2 at *
  have eV : FV = (decide (FE = 0) && DF) := by first | exact hV | exact hFV.symm.trans hV | exact hV.symm ▸ rfl
  subst eV
  have ⟨H_hE, H_hV, H_dn, H_dy, H_hFV, H_hFE, H_q1, H_q2⟩ := hid8 hE hV dn dy hFV hFE q1 q2; clear hE hV dn dy hFV hFE q1 q2; have ⟨H_q3, H_q4, H_hw0, H_bb0, H_k0, H_j0, H_l0, H_r0⟩ := hid8 q3 q4 hw0 bb0 k0 j0 l0 r0; clear q3 q4 hw0 bb0 k0 j0 l0 r0; have ⟨H_hl, H_hm, H_hln, H_hlk, H_hf, H_hg, H_hP, H_hM⟩ := hid8 hl hm hln hlk hf hg hP hM; clear hl hm hln hlk hf hg hP hM; have ⟨H_hS1, H_hS2, H_hla, H_hma⟩ := hid4 hS1 hS2 hla hma; clear hS1 hS2 hla hma
  have hEx := H_hE.out
  cases PB with
  | false =>
    have e1 : FE = 1 := by rw [hEx]; rfl
    subst e1
    have H_hEx := Lib.hid hEx; clear hEx
    go_enter Tryd.func25, Tryd.ntmps25
    go_upto_region 1 with (fail)
    rw [H_hw0.out]
    go_wp2_with fail
    (with_reducible refine (H_q1.out _).mono ?_)
    rintro e w_ ⟨rfl, hw_⟩
    subst hw_
    go_wp2_with fail
    go_ret2
    exact ⟨rfl, H_bb0.out⟩
  | true =>
  cases MB with
  | false =>
    have e1 : FE = 1 := by rw [hEx]; rfl
    subst e1
    have H_hEx := Lib.hid hEx; clear hEx
    go_enter Tryd.func25, Tryd.ntmps25
    go_upto_region 1 with (fail)
    rw [H_hw0.out]
    go_wp2_with fail
    (with_reducible refine (H_q1.out _).mono ?_)
    rintro e w_ ⟨rfl, hw_⟩
    subst hw_
    go_wp2_with fail
    (with_reducible refine (H_q2.out _).mono ?_)
    rintro e w_ ⟨rfl, hw_⟩
    subst hw_
    go_wp2_with fail
    go_ret2
    exact ⟨rfl, H_bb0.out⟩
  | true =>
  cases S1 with
  | false =>
    have e1 : FE = 9 := by rw [hEx]; rfl
    subst e1
    have H_hEx := Lib.hid hEx; clear hEx
    go_enter Tryd.func25, Tryd.ntmps25
    go_upto_region 1 with (fail)
    rw [H_hw0.out]
    go_wp2_with fail
    (with_reducible refine (H_q1.out _).mono ?_)
    rintro e w_ ⟨rfl, hw_⟩
    subst hw_
    go_wp2_with fail
    (with_reducible refine (H_q2.out _).mono ?_)
    rintro e w_ ⟨rfl, hw_⟩
    subst hw_
    have u0 := (H_k0.out 0 _ rfl).at
    have u1 := (H_k0.out 1 _ rfl).at
    have u2 := (H_k0.out 2 _ rfl).at
    have u3 := (H_k0.out 3 _ rfl).at
    have u4 := (H_k0.out 4 _ rfl).at
    have u5 := (H_k0.out 5 _ rfl).at
    go_wp2_with fail
    (with_reducible refine (H_q3.out _ ?_).mono ?_)
    · exact H_l0.out.below (show Below w0.heap.size w0 _ from belt)
    rintro e w2 ⟨rfl, b2⟩
    have c2 : Below w0.heap.size w0 w2 := Below.trans belt (b2.mono omh)
    have s2 := c2.size
    have bb2 := H_bb0.out.trans (c2.mono H_bb0.out.size)
    have ⟨H_b2, H_c2, H_bb2⟩ := hid3 b2 c2 bb2; clear b2 c2 bb2
    go_wp2_with fail
    go_ret2
    exact ⟨rfl, H_bb2.out⟩
  | true =>
  cases S2 with
  | false =>
    have e1 : FE = 9 := by rw [hEx]; rfl
    subst e1
    have H_hEx := Lib.hid hEx; clear hEx
    go_enter Tryd.func25, Tryd.ntmps25
    go_upto_region 1 with (fail)
    rw [H_hw0.out]
    go_wp2_with fail
    (with_reducible refine (H_q1.out _).mono ?_)
    rintro e w_ ⟨rfl, hw_⟩
    subst hw_
    go_wp2_with fail
    (with_reducible refine (H_q2.out _).mono ?_)
    rintro e w_ ⟨rfl, hw_⟩
    subst hw_
    have u0 := (H_k0.out 0 _ rfl).at
    have u1 := (H_k0.out 1 _ rfl).at
    have u2 := (H_k0.out 2 _ rfl).at
    have u3 := (H_k0.out 3 _ rfl).at
    have u4 := (H_k0.out 4 _ rfl).at
    have u5 := (H_k0.out 5 _ rfl).at
    go_wp2_with fail
    (with_reducible refine (H_q3.out _ ?_).mono ?_)
    · exact H_l0.out.below (show Below w0.heap.size w0 _ from belt)
    rintro e w2 ⟨rfl, b2⟩
    have c2 : Below w0.heap.size w0 w2 := Below.trans belt (b2.mono omh)
    have s2 := c2.size
    have bb2 := H_bb0.out.trans (c2.mono H_bb0.out.size)
    have j2 := H_j0.out.below c2
    have r2 := H_r0.out.below c2
    have ⟨H_b2, H_c2, H_bb2, H_j2, H_r2⟩ := hid5 b2 c2 bb2 j2 r2; clear b2 c2 bb2 j2 r2
    clear u0 u1 u2 u3 u4 u5
    have u0 := (H_j2.out 0 _ rfl).at
    have u1 := (H_j2.out 1 _ rfl).at
    have u2 := (H_j2.out 2 _ rfl).at
    have u3 := (H_j2.out 3 _ rfl).at
    have u4 := (H_j2.out 4 _ rfl).at
    have u5 := (H_j2.out 5 _ rfl).at
    go_wp2_with fail
    (with_reducible refine (H_q4.out _ ?_).mono ?_)
    · exact H_r2.out.below (show Below w2.heap.size w2 _ from belt)
    rintro e w3 ⟨rfl, b3⟩
    have c3 : Below w2.heap.size w2 w3 := Below.trans belt (b3.mono omh)
    have s3 := c3.size
    have bb3 := H_bb2.out.trans (c3.mono H_bb2.out.size)
    have ⟨H_b3, H_c3, H_bb3⟩ := hid3 b3 c3 bb3; clear b3 c3 bb3
    go_wp2_with fail
    go_ret2
    exact ⟨rfl, H_bb3.out⟩
  | true =>
    have e1 : FE = 0 := by rw [hEx]; rfl
    subst e1
    have fin : (decide ((0 : Int) = 0) && DF) = DF := by simp
    rw [fin]
    have ⟨H_hEx, H_fin⟩ := hid2 hEx fin; clear hEx fin
    go_enter Tryd.func25, Tryd.ntmps25
    go_upto_region 1 with (fail)
    rw [H_hw0.out]
    go_wp2_with fail
    (with_reducible refine (H_q1.out _).mono ?_)
    rintro e w_ ⟨rfl, hw_⟩
    subst hw_
    go_wp2_with fail
    (with_reducible refine (H_q2.out _).mono ?_)
    rintro e w_ ⟨rfl, hw_⟩
    subst hw_
    have u0 := (H_k0.out 0 _ rfl).at
    have u1 := (H_k0.out 1 _ rfl).at
    have u2 := (H_k0.out 2 _ rfl).at
    have u3 := (H_k0.out 3 _ rfl).at
    have u4 := (H_k0.out 4 _ rfl).at
    have u5 := (H_k0.out 5 _ rfl).at
    go_wp2_with fail
    (with_reducible refine (H_q3.out _ ?_).mono ?_)
    · exact H_l0.out.below (show Below w0.heap.size w0 _ from belt)
    rintro e w2 ⟨rfl, b2⟩
    have c2 : Below w0.heap.size w0 w2 := Below.trans belt (b2.mono omh)
    have s2 := c2.size
    have bb2 := H_bb0.out.trans (c2.mono H_bb0.out.size)
    have k2 := H_k0.out.below c2
    have j2 := H_j0.out.below c2
    have l2 := H_l0.out.below c2
    have r2 := H_r0.out.below c2
    have ⟨H_b2, H_c2, H_bb2, H_k2, H_j2, H_l2, H_r2⟩ := hid7 b2 c2 bb2 k2 j2 l2 r2; clear b2 c2 bb2 k2 j2 l2 r2
    clear u0 u1 u2 u3 u4 u5
    have u0 := (H_j2.out 0 _ rfl).at
    have u1 := (H_j2.out 1 _ rfl).at
    have u2 := (H_j2.out 2 _ rfl).at
    have u3 := (H_j2.out 3 _ rfl).at
    have u4 := (H_j2.out 4 _ rfl).at
    have u5 := (H_j2.out 5 _ rfl).at
    go_wp2_with fail
    (with_reducible refine (H_q4.out _ ?_).mono ?_)
    · exact H_r2.out.below (show Below w2.heap.size w2 _ from belt)
    rintro e w3 ⟨rfl, b3⟩
    have c3 : Below w2.heap.size w2 w3 := Below.trans belt (b3.mono omh)
    have s3 := c3.size
    have bb3 := H_bb2.out.trans (c3.mono H_bb2.out.size)
    have k3 := H_k2.out.below c3
    have j3 := H_j2.out.below c3
    have l3 := H_l2.out.below c3
    have r3 := H_r2.out.below c3
    have ⟨H_b3, H_c3, H_bb3, H_k3, H_j3, H_l3, H_r3⟩ := hid7 b3 c3 bb3 k3 j3 l3 r3; clear b3 c3 bb3 k3 j3 l3 r3
    clear u0 u1 u2 u3 u4 u5
    go_upto_region 6 with (fail)
    go_loopw [10] (fun i wr => ∃ j : Nat, j ≤ n ∧ j ≤ k ∧ i = .int .i64 j ∧ (∀ i, i < j → (ms.map msI)[i]? = (ns.map msI)[i]?) ∧ Below w3.heap.size w3 wr) (fun i _ => n - (intOf i).toNat)
    case atStart => exact ⟨0, by omega, by omega, rfl, fun j hj => absurd hj (by omega), Below.refl _ _⟩
    case round =>
      obtain ⟨j, hj, hjk, rfl, hall, bz⟩ := hrel
      have bbz := H_bb3.out.trans (bz.mono H_bb3.out.size)
      have kz := H_k3.out.below bz
      have jz := H_j3.out.below bz
      by_cases h1 : j < n
      rotate_left
      · have i2 : ¬ (j : Int) < (n : Int) := by omega
        have d2 : decide ((j : Int) < (n : Int)) = false := decide_eq_false i2
        have fn := H_dn.out (fun i hi => hall i (by omega))
        have ⟨H_hall, H_bz, H_bbz, H_kz, H_jz, H_fn⟩ := hid6 hall bz bbz kz jz fn; clear hall bz bbz kz jz fn
        have u0 := (H_kz.out 0 _ rfl).at
        have u1 := (H_kz.out 1 _ rfl).at
        have u2 := (H_kz.out 2 _ rfl).at
        have u3 := (H_kz.out 3 _ rfl).at
        have u4 := (H_kz.out 4 _ rfl).at
        have u5 := (H_kz.out 5 _ rfl).at
        go_wp2_with fail
        go_ret2
        exact ⟨by rw [H_fn.out]; rfl, H_bbz.out⟩
      have i1 : (j : Int) < (n : Int) := by omega
      have d1 : decide ((j : Int) < (n : Int)) = true := decide_eq_true i1
      by_cases h2 : j < k
      rotate_left
      · have i2 : ¬ (j : Int) < (k : Int) := by omega
        have d2 : decide ((j : Int) < (k : Int)) = false := decide_eq_false i2
        have fn := H_dn.out (fun i hi => hall i (by omega))
        have ⟨H_hall, H_bz, H_bbz, H_kz, H_jz, H_fn⟩ := hid6 hall bz bbz kz jz fn; clear hall bz bbz kz jz fn
        have u0 := (H_kz.out 0 _ rfl).at
        have u1 := (H_kz.out 1 _ rfl).at
        have u2 := (H_kz.out 2 _ rfl).at
        have u3 := (H_kz.out 3 _ rfl).at
        have u4 := (H_kz.out 4 _ rfl).at
        have u5 := (H_kz.out 5 _ rfl).at
        have v0 := (H_jz.out 0 _ rfl).at
        have v1 := (H_jz.out 1 _ rfl).at
        have v2 := (H_jz.out 2 _ rfl).at
        have v3 := (H_jz.out 3 _ rfl).at
        have v4 := (H_jz.out 4 _ rfl).at
        have v5 := (H_jz.out 5 _ rfl).at
        go_wp2_with fail
        go_ret2
        exact ⟨by rw [H_fn.out]; rfl, H_bbz.out⟩
      have i2 : (j : Int) < (k : Int) := by omega
      have d2 : decide ((j : Int) < (k : Int)) = true := decide_eq_true i2
      have i0 : (0 : Int) ≤ (j : Int) := by omega
      obtain ⟨x, hx⟩ : ∃ x, ms[j]? = some x := ⟨_, List.getElem?_eq_getElem (by rw [H_hln.out]; exact h1)⟩
      obtain ⟨y, hy⟩ : ∃ y, ns[j]? = some y := ⟨_, List.getElem?_eq_getElem (by rw [H_hlk.out]; exact h2)⟩
      obtain ⟨b, off, hA, hbl, ⟨_, _, xi⟩, c0, c1, c2, c3, c4⟩ := (H_l3.out.below bz).at hx
      obtain ⟨b2, off2, hB, hbl2, ⟨_, _, yi⟩, e0, e1, e2, e3, e4⟩ := (H_r3.out.below bz).at hy
      subst hA hB
      have q := fun W h1 h2 => rsameM_any x y (H_hla.out x (List.mem_of_getElem? hx)) (H_hma.out y (List.mem_of_getElem? hy)) W h1 h2
      have ex : x.cells.toArray = #[.int .i64 x.p, .int .i64 x.s, .int .i64 x.t, .int .i64 x.k, .slice x.A x.a.length x.c] := rfl
      have ey : y.cells.toArray = #[.int .i64 y.p, .int .i64 y.s, .int .i64 y.t, .int .i64 y.k, .slice y.A y.a.length y.c] := rfl
      rw [ex, ey] at q
      clear ex ey
      have hR := @sameM_iff x y
      have hnext : sameM x y = true → ∀ i, i < j + 1 → (ms.map msI)[i]? = (ns.map msI)[i]? := fun he i hi => by
        rcases Nat.lt_or_ge i j with h | h
        · exact hall i h
        · rw [show i = j by omega, map_at hx, map_at hy, hR.1 he]
      have hyes : sameM x y = false → DF = true := fun he => H_dy.out j x y (by omega) hx hy (fun h => by
        have := hR.2 h
        rw [he] at this; cases this)
      generalize sameM x y = R at *
      generalize x.a.length = xn at *
      generalize y.a.length = yn at *
      generalize x.p = xp at *
      generalize x.s = xs at *
      generalize x.t = xt at *
      generalize x.k = xk at *
      generalize y.p = yp at *
      generalize y.s = ys at *
      generalize y.t = yt at *
      generalize y.k = yk at *
      have zk := (kz 0 _ rfl).lt
      have zj := (jz 0 _ rfl).lt
      have ⟨H_hall, H_bz, H_bbz, H_kz, H_jz, H_xi, H_yi, H_q⟩ := hid8 hall bz bbz kz jz xi yi q; clear hall bz bbz kz jz xi yi q; have ⟨H_hR, H_hnext, H_hyes, H_hx, H_hy⟩ := hid5 hR hnext hyes hx hy; clear hR hnext hyes hx hy
      have u0 := (H_kz.out 0 _ rfl).at
      have u1 := (H_kz.out 1 _ rfl).at
      have u2 := (H_kz.out 2 _ rfl).at
      have u3 := (H_kz.out 3 _ rfl).at
      have u4 := (H_kz.out 4 _ rfl).at
      have u5 := (H_kz.out 5 _ rfl).at
      have v0 := (H_jz.out 0 _ rfl).at
      have v1 := (H_jz.out 1 _ rfl).at
      have v2 := (H_jz.out 2 _ rfl).at
      have v3 := (H_jz.out 3 _ rfl).at
      have v4 := (H_jz.out 4 _ rfl).at
      have v5 := (H_jz.out 5 _ rfl).at
      go_upto_region 8 with (fail)
      refine wp_region_held_drew (S := (fun W => (∀ b o, b < wr.heap.size → W.cell? ⟨b, o, none⟩ = wr.cell? ⟨b, o, none⟩) ∧ Below wr.heap.size wr W)) (by kernel_rfl) ?_ (fun hHeld => ?_)
      · (try dsimp only); (first | (refine ext_mk ?_; exact belt))
      refine take_at (i := 0) (some 45) rfl rfl (by kernel_rfl) (fun _ _ _ h => h) (by rfl) (v := ?_) ?_ (by assumption) ?_
      rotate_left
      · intro W hSw; (try dsimp only at hSw); go_simp; (try with_reducible rfl)
      (try simp only [apz])
      refine take_at (i := 1) (some 46) rfl rfl (by kernel_rfl) (fun _ _ _ h => h) (by rfl) (v := ?_) ?_ (by assumption) ?_
      rotate_left
      · intro W hSw; (try dsimp only at hSw); go_simp; (try with_reducible rfl)
      (try simp only [apz])
      refine take_at (i := 2) (some 47) rfl rfl (by kernel_rfl) (fun _ _ _ h => h) (by rfl) (v := ?_) ?_ (by assumption) ?_
      rotate_left
      · intro W hSw; (try dsimp only at hSw); go_simp; (try with_reducible rfl)
      (try simp only [apz])
      refine take_at (i := 3) (some 48) rfl rfl (by kernel_rfl) (fun _ _ _ h => h) (by rfl) (v := ?_) ?_ (by assumption) ?_
      rotate_left
      · intro W hSw; (try dsimp only at hSw); go_simp; (try with_reducible rfl)
      (try simp only [apz])
      refine take_at (i := 4) (some 49) rfl rfl (by kernel_rfl) (fun _ _ _ h => h) (by rfl) (v := ?_) ?_ (by assumption) ?_
      rotate_left
      · intro W hSw; (try dsimp only at hSw); go_simp; (try with_reducible rfl)
      (try simp only [apz])
      refine take_at (i := 5) (some 50) rfl rfl (by kernel_rfl) (fun _ _ _ h => h) (by rfl) (v := ?_) ?_ (by assumption) ?_
      rotate_left
      · intro W hSw; (try dsimp only at hSw); go_simp; (try with_reducible rfl)
      (try simp only [apz])
      refine take_at (i := 6) (some 51) rfl rfl (by kernel_rfl) (fun _ _ _ h => h) (by rfl) (v := ?_) ?_ (by assumption) ?_
      rotate_left
      · intro W hSw; (try dsimp only at hSw); go_simp; (try with_reducible rfl)
      (try simp only [apz])
      refine take_at (i := 7) (some 52) rfl rfl (by kernel_rfl) (fun _ _ _ h => h) (by rfl) (v := ?_) ?_ (by assumption) ?_
      rotate_left
      · intro W hSw; (try dsimp only at hSw); go_simp; (try with_reducible rfl)
      (try simp only [apz])
      refine take_at (i := 8) (some 53) rfl rfl (by kernel_rfl) (fun _ _ _ h => h) (by rfl) (v := ?_) ?_ (by assumption) ?_
      rotate_left
      · intro W hSw; (try dsimp only at hSw); go_simp; (try with_reducible rfl)
      (try simp only [apz])
      refine take_at (i := 9) (some 54) rfl rfl (by kernel_rfl) (fun _ _ _ h => h) (by rfl) (v := ?_) ?_ (by assumption) ?_
      rotate_left
      · intro W hSw; (try dsimp only at hSw); go_simp; (try with_reducible rfl)
      (try simp only [apz])
      refine wpAnyH_ready (rs := [10]) (by kernel_rfl) (by simp) ?_
      refine AllReadyH.cons rfl (fun K hK => ?_) AllReadyH.nil
      go_simp
      (go_at_call 18; (with_reducible refine (H_q.out _ ?_ ?_).mono ?_); (focus (exact H_xi.out.below (And.right (by assumption : _ ∧ Below wr.heap.size wr _)))); (focus (exact H_yi.out.below (And.right (by assumption : _ ∧ Below wr.heap.size wr _)))); rintro e w5 ⟨rfl, hbw5⟩; have gw5 := Below.trans (And.right (by assumption : _ ∧ Below wr.heap.size wr _)) (hbw5.mono (Below.size (And.right (by assumption : _ ∧ Below wr.heap.size wr _)))); have gsw5 := gw5.size; have hcf := bcell hbw5; have hcw5 := hcf.1; have hfw5 := hcf.2; have hsw5 := hbw5.size; (try simp only [World.size_alloc, World.heap_drewN, heap_drew] at hsw5); clear hbw5 hcf; (try have hzw5 : wr.heap.size < w5.heap.size := by omega))
      refine hK.out _ _ ?_ (fun hHeld => ?_)
      · (try dsimp only); (first | (refine ext_mk ?_; exact belt))
      clear hK K
      (try simp only [apz])
      refine take_at (i := 11) (some 56) rfl rfl (by kernel_rfl) (fun _ _ _ h => h) (by rfl) (v := ?_) ?_ (by assumption) ?_
      rotate_left
      · intro W hSw; (try dsimp only at hSw); go_simp; (try with_reducible rfl)
      (try simp only [apz])
      refine wpAnyH_done (by kernel_rfl) ?_ _
      have gF : Below wr.heap.size wr _ := And.right (by assumption)
      have gG := H_bbz.out.trans (gF.mono H_bbz.out.size)
      have gZ := H_bz.out.trans (gF.mono H_bz.out.size)
      cases R with
      | true =>
        have hn2 := H_hnext.out rfl
        have ⟨H_gF, H_gG, H_gZ, H_hn2⟩ := hid4 gF gG gZ hn2; clear gF gG gZ hn2
        go_wp2_with fail
        go_roundw
        case rel => exact ⟨j + 1, by omega, by omega, by go_num, H_hn2.out, H_gZ.out⟩
        case measure => simp [intOf]; omega
      | false =>
        have hn2 := H_hyes.out rfl
        have ⟨H_gF, H_gG, H_gZ, H_hn2⟩ := hid4 gF gG gZ hn2; clear gF gG gZ hn2
        go_wp2_with fail
        go_ret2
        exact ⟨by rw [H_hn2.out]; rfl, H_gG.out⟩
theorem Blk.lower {w w' : World} {B b : Nat} {vs : Array Value} (h : Blk w b vs) (hb : Below B w w') (hB : b < B) (hs : w.heap.size ≤ w'.heap.size) : Blk w' b vs := fun o v hv =>
  ⟨Nat.lt_of_lt_of_le (h o v hv).lt hs, (hb.cell (p := ⟨b, o, none⟩) hB).trans (h o v hv).at, (hb.frozen (p := ⟨b, o, none⟩) hB).trans (h o v hv).free⟩
theorem OwnM.set {w : World} {base : Nat} {A : Option Addr} {c : Nat} {l : List Msg} (h : OwnM w base A c l) {g : Nat} (hg : g < base) (o : Nat) (u : Value) : OwnM (w.setCell ⟨g, o, none⟩ u) base A c l := ownsRow_setCell_below h hg u
set_option maxRecDepth 100000 in
set_option maxHeartbeats 32000000 in
theorem rappend_any (A : Option Addr) (cp n : Nat) (ms : List Msg) (h : Hd) (party time kind : Int) (B : Option Addr) (cb an : Nat) (a : List Int) (sec once : Int) (hln : ms.length = n) (hn : n ≤ 1000) (hf : HFit h)
    (hp : -9223372036854775808 ≤ party ∧ party ≤ 9223372036854775807) (htm : -9223372036854775808 ≤ time ∧ time ≤ 9223372036854775807) (hk : -9223372036854775808 ≤ kind ∧ kind ≤ 9223372036854775807) (hla : a.length = an) (han : an ≤ 100000) (w : World) (hl : Msgs w A ms) (hib : IntsAt w B .i64 a) :
    Calls Tryd.prog 21 #[.agg #[.slice A n cp, .int .i64 h.p, .int .i64 h.n, .int .u64 h.c, .int .i64 h.e, .int .i64 h.s], .int .i64 party, .int .i64 time, .int .i64 kind, .slice B an cb, .int .i64 sec, .int .i64 once] w (AppAt ms h party time kind a sec once w) := by
  obtain ⟨i0, hi0, hz0, hz1, hz2⟩ := info_parts infoMs
  obtain ⟨i1, hi1, hy0, hy1, hy2⟩ := info_parts infoJI
  obtain ⟨A0, hA0⟩ : ∃ X : Option Addr, X = none := ⟨_, rfl⟩
  obtain ⟨C0, hC0⟩ : ∃ X : Nat, X = 0 := ⟨_, rfl⟩
  have own0 : ∀ W base, OwnInts W base 3 .i64 A0 C0 [] := fun W base => by rw [hA0, hC0]; exact OwnInts.nil _ _ _ _
  have ownM0 : ∀ W base, OwnM W base A0 C0 [] := fun W base => by rw [hA0, hC0]; exact OwnRows.nil _ _ _ _ _
  obtain ⟨w0, hw0⟩ : ∃ W, ((w.alloc (.cells #[.slice A n cp, .int .i64 h.p, .int .i64 h.n, .int .u64 h.c, .int .i64 h.e, .int .i64 h.s] 35)).alloc (.cells #[.slice none 0 0, .int .i64 0, .int .i64 0, .int .u64 0, .int .i64 0, .int .i64 0] 35)).alloc (.cells #[.int .i64 party, .int .i64 1, .int .i64 time, .int .i64 kind, .slice none 0 0] 47) = W := ⟨_, rfl⟩
  have bb0 : Below w.heap.size w w0 := by rw [← hw0]; exact (((Below.refl _ _).alloc (Nat.le_refl _) _).alloc (by simp) _).alloc (by simp; omega) _
  have k0 : Blk w0 w.heap.size #[.slice A n cp, .int .i64 h.p, .int .i64 h.n, .int .u64 h.c, .int .i64 h.e, .int .i64 h.s] := by rw [← hw0]; exact ((blk_new rfl).alloc _).alloc _
  have r0 : Blk w0 (w.heap.size + 1) #[.slice none 0 0, .int .i64 0, .int .i64 0, .int .u64 0, .int .i64 0, .int .i64 0] := by rw [← hw0]; exact (blk_new (by simp)).alloc _
  have y0 : Blk w0 (w.heap.size + 2) #[.int .i64 party, .int .i64 1, .int .i64 time, .int .i64 kind, .slice A0 0 C0] := by rw [hA0, hC0, ← hw0]; exact blk_new (by simp)
  have s0 : w.heap.size + 2 < w0.heap.size := by rw [← hw0]; simp
  have ib0 := hib.below bb0
  have qP := fun W => rParty_any party W
  have qF := fun W h1 => rForm_any A cp n ms h party hln (by omega) hf W h1
  have qS := fun W => rSecret_any sec W
  have qO := fun W => rSecret_any once W
  have hMP : msgB ⟨party, 1, time, kind, none, 0, a⟩ = true → ptyB party = true := fun h => (msgB_iff.1 h).1
  have ⟨H_hi0, H_hz0, H_hz1, H_hz2, H_hi1, H_hy0, H_hy1, H_hy2⟩ := hid8 hi0 hz0 hz1 hz2 hi1 hy0 hy1 hy2; clear hi0 hz0 hz1 hz2 hi1 hy0 hy1 hy2; have ⟨H_hA0, H_hC0, H_own0, H_ownM0, H_hw0, H_bb0, H_k0, H_r0⟩ := hid8 hA0 hC0 own0 ownM0 hw0 bb0 k0 r0; clear hA0 hC0 own0 ownM0 hw0 bb0 k0 r0; have ⟨H_y0, H_ib0, H_hl, H_hib, H_hln, H_hla, H_hf, H_qP⟩ := hid8 y0 ib0 hl hib hln hla hf qP; clear y0 ib0 hl hib hln hla hf qP; have ⟨H_qF, H_qS, H_qO⟩ := hid3 qF qS qO; clear qF qS qO
  go_enter Tryd.func21, Tryd.ntmps21
  go_upto_region 2 with (fail)
  rw [H_hw0.out]
  have u0 := (H_y0.out 0 _ rfl).at
  have u1 := (H_y0.out 1 _ rfl).at
  have u2 := (H_y0.out 2 _ rfl).at
  have u3 := (H_y0.out 3 _ rfl).at
  have u4 := (H_y0.out 4 _ rfl).at
  have f0 := (H_y0.out 0 _ rfl).free
  have f1 := (H_y0.out 1 _ rfl).free
  have f2 := (H_y0.out 2 _ rfl).free
  have f3 := (H_y0.out 3 _ rfl).free
  have f4 := (H_y0.out 4 _ rfl).free
  have ly := (H_y0.out 0 _ rfl).lt
  go_wp2_with (at_builtin; refine wp_app_at _ rfl (.tmp 24) (.tmp 25) _ rfl w0.heap.size 3 i1 _ 8 Tryd.underlying45 H_hi1.out H_hy0.out H_hy1.out H_hy2.out rfl .i64 A0 C0 0 [] rfl rfl (H_own0.out _ _) B cb an a H_hla.out rfl H_ib0.out (by omega) (by omega) (Nat.le_refl _) ?_)
  intro A1 c1 w1 o1 g1 _
  change OwnInts w1 _ _ _ _ _ a at o1
  have d1 : Below w0.heap.size w0 w1 := (Below.refl _ _).grown g1 (Nat.le_refl _) (fun k e => by rw [H_hA0.out] at e; cases e)
  have bb1 := H_bb0.out.trans (d1.mono H_bb0.out.size)
  have k1 := H_k0.out.below d1
  have r1 := H_r0.out.below d1
  have y1 := H_y0.out.below d1
  have cap1 := o1.cap
  have i1' := o1.ints
  have hA1 : ∀ b' off, a ≠ [] → A1 = some ⟨b', off, none⟩ → w0.heap.size ≤ b' ∧ b' < w1.heap.size := fun b' off _ e => o1.lt b' (by rw [e]; rfl)
  have s1 := d1.size
  clear u0 u1 u2 u3 u4
  clear f0 f1 f2 f3 f4
  clear ly
  have ⟨H_o1, H_g1, H_d1, H_bb1, H_k1, H_r1, H_y1, H_cap1⟩ := hid8 o1 g1 d1 bb1 k1 r1 y1 cap1; clear o1 g1 d1 bb1 k1 r1 y1 cap1; have ⟨H_i1', H_hA1⟩ := hid2 i1' hA1; clear i1' hA1
  have u0 := (H_y1.out 0 _ rfl).at
  have u1 := (H_y1.out 1 _ rfl).at
  have u2 := (H_y1.out 2 _ rfl).at
  have u3 := (H_y1.out 3 _ rfl).at
  have u4 := (H_y1.out 4 _ rfl).at
  have f0 := (H_y1.out 0 _ rfl).free
  have f1 := (H_y1.out 1 _ rfl).free
  have f2 := (H_y1.out 2 _ rfl).free
  have f3 := (H_y1.out 3 _ rfl).free
  have f4 := (H_y1.out 4 _ rfl).free
  have ly := (H_y1.out 0 _ rfl).lt
  go_upto_region 3 with (fail)
  obtain ⟨w2, hw2⟩ : ∃ W, w1.setCell ⟨w.heap.size + 2, 4, none⟩ (.slice A1 an c1) = W := ⟨_, rfl⟩
  rw [hw2]
  have bb2 : Below w.heap.size w w2 := by rw [← hw2]; exact H_bb1.out.setCell (by simp) _
  have y2 : Blk w2 (w.heap.size + 2) #[.int .i64 party, .int .i64 1, .int .i64 time, .int .i64 kind, .slice A1 an c1] := by rw [← hw2]; exact H_y1.out.set 4 _ (by simp)
  have k2 : Blk w2 w.heap.size #[.slice A n cp, .int .i64 h.p, .int .i64 h.n, .int .u64 h.c, .int .i64 h.e, .int .i64 h.s] := by rw [← hw2]; exact H_k1.out.far (by omega) _
  have r2 : Blk w2 (w.heap.size + 1) #[.slice none 0 0, .int .i64 0, .int .i64 0, .int .u64 0, .int .i64 0, .int .i64 0] := by rw [← hw2]; exact H_r1.out.far (by omega) _
  have i2 : IntsAt w2 A1 .i64 a := by rw [← hw2]; exact putL_ints (fun b' off h1 h2 => by have := H_hA1.out b' off h1 h2; omega) [.slice A1 an c1] w1 4 H_i1'.out
  have l2 := H_hl.out.below bb2
  have s2 : w2.heap.size ≤ w1.heap.size := by rw [← hw2]; simp
  have s2b : w1.heap.size ≤ w2.heap.size := by rw [← hw2]; simp
  clear u0 u1 u2 u3 u4
  clear f0 f1 f2 f3 f4
  clear ly
  have qV := fun W h1 => rValid_any ⟨party, 1, time, kind, A1, c1, a⟩ ⟨hp, by show (-9223372036854775808 : Int) ≤ 1 ∧ (1 : Int) ≤ _; omega, htm, hk, by show a.length ≤ _; rw [H_hla.out]; omega⟩ W h1
  have e3 : (Msg.mk party 1 time kind A1 c1 a).cells.toArray = #[.int .i64 party, .int .i64 1, .int .i64 time, .int .i64 kind, .slice A1 an c1] := by rw [← H_hla.out]; rfl
  rw [e3] at qV
  have eM : msgB ⟨party, 1, time, kind, A1, c1, a⟩ = msgB ⟨party, 1, time, kind, none, 0, a⟩ := rfl
  rw [eM] at qV
  clear e3 eM
  generalize hRP : ptyB party = RP at *
  generalize hRM : msgB ⟨party, 1, time, kind, none, 0, a⟩ = RM at *
  generalize hRF : frmB ms h party = RF at *
  generalize hRS : wthB sec 1 = RS at *
  generalize hRO : wthB once 1 = RO at *
  have no : ∀ P : Prop, ¬ P → (((RS && RO) = true ∧ RM = true ∧ RF = true) → P) → apE ms h party time kind a sec once = 1 := fun P h1 h2 => by
    rw [apE, hRS, hRO, hRM, hRF, if_neg (fun h => h1 (h2 h))]
  have lk2 := (k2 0 _ rfl).lt
  have ⟨H_hw2, H_bb2, H_y2, H_k2, H_r2, H_i2, H_l2, H_qV⟩ := hid8 hw2 bb2 y2 k2 r2 i2 l2 qV; clear hw2 bb2 y2 k2 r2 i2 l2 qV; have ⟨H_hRP, H_hRM, H_hRF, H_hRS, H_hRO, H_no, H_hMP⟩ := hid7 hRP hRM hRF hRS hRO no hMP; clear hRP hRM hRF hRS hRO no hMP
  go_wp2_with fail
  (with_reducible refine (H_qP.out _).mono ?_)
  rintro e w_ ⟨rfl, hw_⟩
  subst hw_
  cases RP with
  | false =>
    have eE := H_no.out False id (fun h => by have := H_hMP.out h.2.1; cases this)
    have H_eE := Lib.hid eE; clear eE
    have z0 := (H_r2.out 0 _ rfl).at
    have z1 := (H_r2.out 1 _ rfl).at
    have z2 := (H_r2.out 2 _ rfl).at
    have z3 := (H_r2.out 3 _ rfl).at
    have z4 := (H_r2.out 4 _ rfl).at
    have z5 := (H_r2.out 5 _ rfl).at
    have f0 := (H_r2.out 0 _ rfl).free
    have f1 := (H_r2.out 1 _ rfl).free
    have f2 := (H_r2.out 2 _ rfl).free
    have f3 := (H_r2.out 3 _ rfl).free
    have f4 := (H_r2.out 4 _ rfl).free
    have f5 := (H_r2.out 5 _ rfl).free
    have lr := (H_r2.out 0 _ rfl).lt
    have gw9 : Below w.heap.size w (putL w2 (w.heap.size + 1) 0 [.slice none 0 0, .int .i64 0, .int .i64 0, .int .u64 0, .int .i64 0, .int .i64 0]) := putL_below (by omega) _ _ _ H_bb2.out
    simp only [putL, Nat.reduceAdd] at gw9
    have H_gw9 := Lib.hid gw9; clear gw9
    go_wp2_with fail
    refine bodyPost_ret (v := .tuple #[.agg #[.slice none 0 0, .int .i64 0, .int .i64 0, .int .u64 0, .int .i64 0, .int .i64 0], .int .i64 1]) (by simp [results, Tryd.results21, go_sem, *]) rfl (Or.inl ⟨by rw [H_eE.out]; decide, by rw [H_eE.out]; rfl, H_gw9.out⟩)
  | true =>
  have v0 := (H_k2.out 0 _ rfl).at
  have v1 := (H_k2.out 1 _ rfl).at
  have v2 := (H_k2.out 2 _ rfl).at
  have v3 := (H_k2.out 3 _ rfl).at
  have v4 := (H_k2.out 4 _ rfl).at
  have v5 := (H_k2.out 5 _ rfl).at
  go_wp2_with fail
  (with_reducible refine (H_qF.out _ ?_).mono ?_)
  · exact H_l2.out.below (show Below w2.heap.size w2 _ from belt)
  rintro e w3 ⟨rfl, b3⟩
  have c3 : Below w2.heap.size w2 w3 := Below.trans belt (b3.mono omh)
  have s3 := c3.size
  have bb3 := H_bb2.out.trans (c3.mono H_bb2.out.size)
  have k3 := H_k2.out.below c3
  have r3 := H_r2.out.below c3
  have y3 := H_y2.out.below c3
  have i3 := H_i2.out.below c3
  have l3 := H_l2.out.below c3
  have ⟨H_b3, H_c3, H_bb3, H_k3, H_r3, H_y3, H_i3, H_l3⟩ := hid8 b3 c3 bb3 k3 r3 y3 i3 l3; clear b3 c3 bb3 k3 r3 y3 i3 l3
  clear v0 v1 v2 v3 v4 v5
  cases RF with
  | false =>
    have eE := H_no.out False id (fun h => by cases h.2.2)
    have H_eE := Lib.hid eE; clear eE
    have z0 := (H_r3.out 0 _ rfl).at
    have z1 := (H_r3.out 1 _ rfl).at
    have z2 := (H_r3.out 2 _ rfl).at
    have z3 := (H_r3.out 3 _ rfl).at
    have z4 := (H_r3.out 4 _ rfl).at
    have z5 := (H_r3.out 5 _ rfl).at
    have f0 := (H_r3.out 0 _ rfl).free
    have f1 := (H_r3.out 1 _ rfl).free
    have f2 := (H_r3.out 2 _ rfl).free
    have f3 := (H_r3.out 3 _ rfl).free
    have f4 := (H_r3.out 4 _ rfl).free
    have f5 := (H_r3.out 5 _ rfl).free
    have lr := (H_r3.out 0 _ rfl).lt
    have gw9 : Below w.heap.size w (putL w3 (w.heap.size + 1) 0 [.slice none 0 0, .int .i64 0, .int .i64 0, .int .u64 0, .int .i64 0, .int .i64 0]) := putL_below (by omega) _ _ _ H_bb3.out
    simp only [putL, Nat.reduceAdd] at gw9
    have H_gw9 := Lib.hid gw9; clear gw9
    go_wp2_with fail
    refine bodyPost_ret (v := .tuple #[.agg #[.slice none 0 0, .int .i64 0, .int .i64 0, .int .u64 0, .int .i64 0, .int .i64 0], .int .i64 1]) (by simp [results, Tryd.results21, go_sem, *]) rfl (Or.inl ⟨by rw [H_eE.out]; decide, by rw [H_eE.out]; rfl, H_gw9.out⟩)
  | true =>
  go_wp2_with fail
  (with_reducible refine (H_qS.out _).mono ?_)
  rintro e w_ ⟨rfl, hw_⟩
  subst hw_
  cases RS with
  | false =>
    have eE := H_no.out False id (fun h => by cases h.1)
    have H_eE := Lib.hid eE; clear eE
    have z0 := (H_r3.out 0 _ rfl).at
    have z1 := (H_r3.out 1 _ rfl).at
    have z2 := (H_r3.out 2 _ rfl).at
    have z3 := (H_r3.out 3 _ rfl).at
    have z4 := (H_r3.out 4 _ rfl).at
    have z5 := (H_r3.out 5 _ rfl).at
    have f0 := (H_r3.out 0 _ rfl).free
    have f1 := (H_r3.out 1 _ rfl).free
    have f2 := (H_r3.out 2 _ rfl).free
    have f3 := (H_r3.out 3 _ rfl).free
    have f4 := (H_r3.out 4 _ rfl).free
    have f5 := (H_r3.out 5 _ rfl).free
    have lr := (H_r3.out 0 _ rfl).lt
    have gw9 : Below w.heap.size w (putL w3 (w.heap.size + 1) 0 [.slice none 0 0, .int .i64 0, .int .i64 0, .int .u64 0, .int .i64 0, .int .i64 0]) := putL_below (by omega) _ _ _ H_bb3.out
    simp only [putL, Nat.reduceAdd] at gw9
    have H_gw9 := Lib.hid gw9; clear gw9
    go_wp2_with fail
    refine bodyPost_ret (v := .tuple #[.agg #[.slice none 0 0, .int .i64 0, .int .i64 0, .int .u64 0, .int .i64 0, .int .i64 0], .int .i64 1]) (by simp [results, Tryd.results21, go_sem, *]) rfl (Or.inl ⟨by rw [H_eE.out]; decide, by rw [H_eE.out]; rfl, H_gw9.out⟩)
  | true =>
  go_wp2_with fail
  (with_reducible refine (H_qO.out _).mono ?_)
  rintro e w_ ⟨rfl, hw_⟩
  subst hw_
  cases RO with
  | false =>
    have eE := H_no.out False id (fun h => by cases h.1)
    have H_eE := Lib.hid eE; clear eE
    have z0 := (H_r3.out 0 _ rfl).at
    have z1 := (H_r3.out 1 _ rfl).at
    have z2 := (H_r3.out 2 _ rfl).at
    have z3 := (H_r3.out 3 _ rfl).at
    have z4 := (H_r3.out 4 _ rfl).at
    have z5 := (H_r3.out 5 _ rfl).at
    have f0 := (H_r3.out 0 _ rfl).free
    have f1 := (H_r3.out 1 _ rfl).free
    have f2 := (H_r3.out 2 _ rfl).free
    have f3 := (H_r3.out 3 _ rfl).free
    have f4 := (H_r3.out 4 _ rfl).free
    have f5 := (H_r3.out 5 _ rfl).free
    have lr := (H_r3.out 0 _ rfl).lt
    have gw9 : Below w.heap.size w (putL w3 (w.heap.size + 1) 0 [.slice none 0 0, .int .i64 0, .int .i64 0, .int .u64 0, .int .i64 0, .int .i64 0]) := putL_below (by omega) _ _ _ H_bb3.out
    simp only [putL, Nat.reduceAdd] at gw9
    have H_gw9 := Lib.hid gw9; clear gw9
    go_wp2_with fail
    refine bodyPost_ret (v := .tuple #[.agg #[.slice none 0 0, .int .i64 0, .int .i64 0, .int .u64 0, .int .i64 0, .int .i64 0], .int .i64 1]) (by simp [results, Tryd.results21, go_sem, *]) rfl (Or.inl ⟨by rw [H_eE.out]; decide, by rw [H_eE.out]; rfl, H_gw9.out⟩)
  | true =>
  have u0 := (H_y3.out 0 _ rfl).at
  have u1 := (H_y3.out 1 _ rfl).at
  have u2 := (H_y3.out 2 _ rfl).at
  have u3 := (H_y3.out 3 _ rfl).at
  have u4 := (H_y3.out 4 _ rfl).at
  have ly := (H_y3.out 0 _ rfl).lt
  go_wp2_with fail
  (with_reducible refine (H_qV.out _ ?_).mono ?_)
  · exact H_i3.out.below (show Below w3.heap.size w3 _ from belt)
  rintro e w4 ⟨rfl, b4⟩
  have c4 : Below w3.heap.size w3 w4 := Below.trans belt (b4.mono omh)
  have s4 := c4.size
  have bb4 := H_bb3.out.trans (c4.mono H_bb3.out.size)
  have k4 := H_k3.out.below c4
  have r4 := H_r3.out.below c4
  have y4 := H_y3.out.below c4
  have i4 := H_i3.out.below c4
  have l4 := H_l3.out.below c4
  have ⟨H_b4, H_c4, H_bb4, H_k4, H_r4, H_y4, H_i4, H_l4⟩ := hid8 b4 c4 bb4 k4 r4 y4 i4 l4; clear b4 c4 bb4 k4 r4 y4 i4 l4
  clear u0 u1 u2 u3 u4
  clear ly
  cases RM with
  | false =>
    have eE := H_no.out False id (fun h => by cases h.2.1)
    have H_eE := Lib.hid eE; clear eE
    have z0 := (H_r4.out 0 _ rfl).at
    have z1 := (H_r4.out 1 _ rfl).at
    have z2 := (H_r4.out 2 _ rfl).at
    have z3 := (H_r4.out 3 _ rfl).at
    have z4 := (H_r4.out 4 _ rfl).at
    have z5 := (H_r4.out 5 _ rfl).at
    have f0 := (H_r4.out 0 _ rfl).free
    have f1 := (H_r4.out 1 _ rfl).free
    have f2 := (H_r4.out 2 _ rfl).free
    have f3 := (H_r4.out 3 _ rfl).free
    have f4 := (H_r4.out 4 _ rfl).free
    have f5 := (H_r4.out 5 _ rfl).free
    have lr := (H_r4.out 0 _ rfl).lt
    have gw9 : Below w.heap.size w (putL w4 (w.heap.size + 1) 0 [.slice none 0 0, .int .i64 0, .int .i64 0, .int .u64 0, .int .i64 0, .int .i64 0]) := putL_below (by omega) _ _ _ H_bb4.out
    simp only [putL, Nat.reduceAdd] at gw9
    have H_gw9 := Lib.hid gw9; clear gw9
    go_wp2_with fail
    refine bodyPost_ret (v := .tuple #[.agg #[.slice none 0 0, .int .i64 0, .int .i64 0, .int .u64 0, .int .i64 0, .int .i64 0], .int .i64 1]) (by simp [results, Tryd.results21, go_sem, *]) rfl (Or.inl ⟨by rw [H_eE.out]; decide, by rw [H_eE.out]; rfl, H_gw9.out⟩)
  | true =>
  have n5 : ((n : Int) == 5000) = false := by rw [beq_eq_false_iff_ne]; omega
  have eE : apE ms h party time kind a sec once = if ms ≠ [] ∧ time < lastT ms then 6 else 0 := by
    rw [apE, if_pos ⟨by rw [H_hRS.out, H_hRO.out]; rfl, H_hRM.out, H_hRF.out⟩, H_hln.out, if_neg (by omega)]
  obtain ⟨L, hL⟩ : ∃ L : Bool, L = decide (ms ≠ [] ∧ time < lastT ms) := ⟨_, rfl⟩
  have v0 := (H_k4.out 0 _ rfl).at
  have v1 := (H_k4.out 1 _ rfl).at
  have v2 := (H_k4.out 2 _ rfl).at
  have v3 := (H_k4.out 3 _ rfl).at
  have v4 := (H_k4.out 4 _ rfl).at
  have v5 := (H_k4.out 5 _ rfl).at
  go_upto_region 8 with (fail)
  clear v0 v1 v2 v3 v4 v5
  go_cut [71] from 59 to 70 (fun c0 wx => c0 = .bool L ∧ w4 = wx)
  case first =>
    rcases Nat.eq_zero_or_pos n with h0 | h0
    · have hnil : ms = [] := List.eq_nil_of_length_eq_zero (H_hln.out.trans h0)
      have hLf : L = false := by rw [hL]; simp [hnil]
      have g0 : ¬ (0 : Int) < (n : Int) := by omega
      have g0b : decide ((0 : Int) < (n : Int)) = false := decide_eq_false g0
      have g0c : decide (0 < n) = false := decide_eq_false (by omega)
      have ⟨H_h0, H_hLf, H_hL, H_eE⟩ := hid4 h0 hLf hL eE; clear h0 hLf hL eE
      go_wp2_with fail
      go_meet
      case rel => exact ⟨by rw [H_hLf.out], rfl⟩
    · obtain ⟨k, hk1⟩ : ∃ k, n = k + 1 := ⟨n - 1, by omega⟩
      obtain ⟨z, hz⟩ : ∃ z, ms[k]? = some z := ⟨_, List.getElem?_eq_getElem (by rw [H_hln.out]; omega)⟩
      obtain ⟨b, off, hA, hbl, _, _, _, zc, _, _⟩ := H_l4.out.at hz
      have hlt := lastT_at (H_hln.out.trans hk1) hz
      have hne : ms ≠ [] := by intro e; rw [e] at hz; simp at hz
      generalize z.t = zt at *
      have wk : IntKind.i64.wrap ((n : Int) - 1) = (k : Int) := by rw [IntWalk.i64_in _ (by omega)]; omega
      have wk2 : (n : Int) - 1 = (k : Int) := by omega
      have wk3 : IntKind.i64.wrap (k : Int) = (k : Int) := IntWalk.i64_in _ (by omega)
      have g0 : (0 : Int) < (n : Int) := by omega
      have g0b : decide ((0 : Int) < (n : Int)) = true := decide_eq_true g0
      have g0c : decide (0 < n) = true := decide_eq_true h0
      have g1 : (k : Int) < (n : Int) := by omega
      have g2 : (0 : Int) ≤ (k : Int) := by omega
      subst hA
      by_cases hlt2 : time < zt
      · have hLf : L = true := by rw [hL]; simp [hne, hlt, hlt2]
        have ⟨H_h0, H_hLf, H_hL, H_eE, H_hk1, H_hz, H_hne, H_hlt⟩ := hid8 h0 hLf hL eE hk1 hz hne hlt; clear h0 hLf hL eE hk1 hz hne hlt
        have v0 := (H_k4.out 0 _ rfl).at
        have v1 := (H_k4.out 1 _ rfl).at
        have v2 := (H_k4.out 2 _ rfl).at
        have v3 := (H_k4.out 3 _ rfl).at
        have v4 := (H_k4.out 4 _ rfl).at
        have v5 := (H_k4.out 5 _ rfl).at
        go_wp2_with fail
        go_meet
        case rel => exact ⟨by rw [H_hLf.out], rfl⟩
      · have hLf : L = false := by rw [hL]; simp [hne, hlt]; omega
        have ⟨H_h0, H_hLf, H_hL, H_eE, H_hk1, H_hz, H_hne, H_hlt⟩ := hid8 h0 hLf hL eE hk1 hz hne hlt; clear h0 hLf hL eE hk1 hz hne hlt
        have v0 := (H_k4.out 0 _ rfl).at
        have v1 := (H_k4.out 1 _ rfl).at
        have v2 := (H_k4.out 2 _ rfl).at
        have v3 := (H_k4.out 3 _ rfl).at
        have v4 := (H_k4.out 4 _ rfl).at
        have v5 := (H_k4.out 5 _ rfl).at
        go_wp2_with fail
        go_meet
        case rel => exact ⟨by rw [H_hLf.out], rfl⟩
  case rest =>
  obtain ⟨rfl, hw_⟩ := hcut
  subst hw_
  cases L with
  | true =>
    rw [if_pos (of_decide_eq_true hL.symm)] at eE
    have H_hL := Lib.hid hL; clear hL
    have H_eE := Lib.hid eE; clear eE
    have z0 := (H_r4.out 0 _ rfl).at
    have z1 := (H_r4.out 1 _ rfl).at
    have z2 := (H_r4.out 2 _ rfl).at
    have z3 := (H_r4.out 3 _ rfl).at
    have z4 := (H_r4.out 4 _ rfl).at
    have z5 := (H_r4.out 5 _ rfl).at
    have f0 := (H_r4.out 0 _ rfl).free
    have f1 := (H_r4.out 1 _ rfl).free
    have f2 := (H_r4.out 2 _ rfl).free
    have f3 := (H_r4.out 3 _ rfl).free
    have f4 := (H_r4.out 4 _ rfl).free
    have f5 := (H_r4.out 5 _ rfl).free
    have lr := (H_r4.out 0 _ rfl).lt
    have gw9 : Below w.heap.size w (putL w4 (w.heap.size + 1) 0 [.slice none 0 0, .int .i64 0, .int .i64 0, .int .u64 0, .int .i64 0, .int .i64 0]) := putL_below (by omega) _ _ _ H_bb4.out
    simp only [putL, Nat.reduceAdd] at gw9
    have H_gw9 := Lib.hid gw9; clear gw9
    go_wp2_with fail
    refine bodyPost_ret (v := .tuple #[.agg #[.slice none 0 0, .int .i64 0, .int .i64 0, .int .u64 0, .int .i64 0, .int .i64 0], .int .i64 6]) (by simp [results, Tryd.results21, go_sem, *]) rfl (Or.inl ⟨by rw [H_eE.out]; decide, by rw [H_eE.out]; rfl, H_gw9.out⟩)
  | false =>
  rw [if_neg (of_decide_eq_false hL.symm)] at eE
  have hv := okL_all (frm_ok H_hRF.out).2
  obtain ⟨NM, hNM⟩ : ∃ x, x = newM party n time kind A1 c1 a := ⟨_, rfl⟩
  have nmF : MFit NM := by rw [hNM]; exact ⟨hp, ⟨by show _ ≤ (n : Int) + 1; omega, by show (n : Int) + 1 ≤ _; omega⟩, htm, hk, by show a.length ≤ _; rw [H_hla.out]; omega⟩
  have nmB : msgB NM = true := by rw [hNM]; exact msgB_seq H_hRM.out ⟨by omega, by omega⟩
  have nmc : NM.a.length ≤ NM.c := by rw [hNM]; exact H_o1.out.cap
  have hv2 : ∀ m ∈ ms ++ [NM], msgB m = true := fun m hm => by
    rcases List.mem_append.1 hm with hm | hm
    · exact hv m hm
    · rw [List.mem_singleton] at hm; rw [hm]; exact nmB
  have eN : NM.cells = [.int .i64 party, .int .i64 ((n : Int) + 1), .int .i64 time, .int .i64 kind, .slice A1 an c1] := by rw [hNM, ← H_hla.out]; rfl
  have wn : IntKind.i64.wrap ((n : Int) + 1) = (n : Int) + 1 := IntWalk.i64_in _ (by omega)
  have ⟨H_eE, H_hL, H_hv, H_hNM, H_nmF, H_nmB, H_nmc, H_hv2⟩ := hid8 eE hL hv hNM nmF nmB nmc hv2; clear eE hL hv hNM nmF nmB nmc hv2; have H_eN := Lib.hid eN; clear eN
  have u0 := (H_y4.out 0 _ rfl).at
  have u1 := (H_y4.out 1 _ rfl).at
  have u2 := (H_y4.out 2 _ rfl).at
  have u3 := (H_y4.out 3 _ rfl).at
  have u4 := (H_y4.out 4 _ rfl).at
  have f0 := (H_y4.out 0 _ rfl).free
  have f1 := (H_y4.out 1 _ rfl).free
  have f2 := (H_y4.out 2 _ rfl).free
  have f3 := (H_y4.out 3 _ rfl).free
  have f4 := (H_y4.out 4 _ rfl).free
  have ly := (H_y4.out 0 _ rfl).lt
  go_upto_region 11 with (fail)
  obtain ⟨w5, hw5⟩ : ∃ W, w4.setCell ⟨w.heap.size + 2, 1, none⟩ (.int .i64 ((n : Int) + 1)) = W := ⟨_, rfl⟩
  rw [hw5]
  have hs5 : w5.heap.size ≤ w4.heap.size := by rw [← hw5]; simp
  have hs5b : w4.heap.size ≤ w5.heap.size := by rw [← hw5]; simp
  have bb5 : Below w.heap.size w w5 := by rw [← hw5]; exact H_bb4.out.setCell (by simp) _
  have y5 : Blk w5 (w.heap.size + 2) #[.int .i64 party, .int .i64 ((n : Int) + 1), .int .i64 time, .int .i64 kind, .slice A1 an c1] := by rw [← hw5]; exact H_y4.out.set 1 _ (by simp)
  have k5 : Blk w5 w.heap.size #[.slice A n cp, .int .i64 h.p, .int .i64 h.n, .int .u64 h.c, .int .i64 h.e, .int .i64 h.s] := by rw [← hw5]; exact H_k4.out.far (by omega) _
  have r5 : Blk w5 (w.heap.size + 1) #[.slice none 0 0, .int .i64 0, .int .i64 0, .int .u64 0, .int .i64 0, .int .i64 0] := by rw [← hw5]; exact H_r4.out.far (by omega) _
  have i5 : IntsAt w5 A1 .i64 a := by rw [← hw5]; exact putL_ints (fun b' off h1 h2 => by have := H_hA1.out b' off h1 h2; omega) [.int .i64 ((n : Int) + 1)] w4 1 H_i4.out
  have l5 := H_hl.out.below bb5
  have hA5 : ∀ b' off, a ≠ [] → A1 = some ⟨b', off, none⟩ → w0.heap.size ≤ b' ∧ b' < w5.heap.size := fun b' off h1 h2 => by have := H_hA1.out b' off h1 h2; omega
  have s5 : w.heap.size + 2 < w5.heap.size := by omega
  clear u0 u1 u2 u3 u4
  clear f0 f1 f2 f3 f4
  clear ly
  have ⟨H_hw5, H_bb5, H_y5, H_k5, H_r5, H_i5, H_l5, H_hA5⟩ := hid8 hw5 bb5 y5 k5 r5 i5 l5 hA5; clear hw5 bb5 y5 k5 r5 i5 l5 hA5
  go_upto_region 12 with (fail)
  obtain ⟨g, hg⟩ : ∃ g, w5.heap.size = g := ⟨_, rfl⟩
  obtain ⟨w6, hw6⟩ : ∃ W, w5.alloc (.cells #[.slice none 0 0, .int .i64 0, .int .i64 0, .int .u64 0, .int .i64 0, .int .i64 0] 35) = W := ⟨_, rfl⟩
  rw [hw6]
  have D6 : Below w5.heap.size w5 w6 := by rw [← hw6]; exact (Below.refl _ _).alloc (Nat.le_refl _) _
  have q6 : Blk w6 g #[.slice A0 0 C0, .int .i64 0, .int .i64 0, .int .u64 0, .int .i64 0, .int .i64 0] := by rw [H_hA0.out, H_hC0.out, ← hw6]; exact blk_new hg
  have k6 := H_k5.out.below D6
  have l6 := H_l5.out.below D6
  have s6 : g < w6.heap.size := by rw [← hw6, ← hg]; simp
  have hg1 : w5.heap.size ≤ g := by omega
  have hg2 : g ≤ w5.heap.size := by omega
  rw [hg]
  have ⟨H_hg, H_hw6, H_D6, H_q6, H_k6, H_l6⟩ := hid6 hg hw6 D6 q6 k6 l6; clear hg hw6 D6 q6 k6 l6
  have v0 := (H_k6.out 0 _ rfl).at
  have v1 := (H_k6.out 1 _ rfl).at
  have v2 := (H_k6.out 2 _ rfl).at
  have v3 := (H_k6.out 3 _ rfl).at
  have v4 := (H_k6.out 4 _ rfl).at
  have v5 := (H_k6.out 5 _ rfl).at
  have u0 := (H_q6.out 0 _ rfl).at
  have u1 := (H_q6.out 1 _ rfl).at
  have u2 := (H_q6.out 2 _ rfl).at
  have u3 := (H_q6.out 3 _ rfl).at
  have u4 := (H_q6.out 4 _ rfl).at
  have u5 := (H_q6.out 5 _ rfl).at
  have f0 := (H_q6.out 0 _ rfl).free
  have f1 := (H_q6.out 1 _ rfl).free
  have f2 := (H_q6.out 2 _ rfl).free
  have f3 := (H_q6.out 3 _ rfl).free
  have f4 := (H_q6.out 4 _ rfl).free
  have f5 := (H_q6.out 5 _ rfl).free
  have lk6 := (H_k6.out 0 _ rfl).lt
  have lq6 := (H_q6.out 0 _ rfl).lt
  go_wp2_with (at_builtin; refine wp_app_gen (At := MsAt) _ rfl (.tmp 77) (.tmp 79) _ rfl i0 _ 56 Tryd.underlying28 H_hi0.out H_hz0.out H_hz1.out H_hz2.out rfl (by decide) Msg.cells_len Msg.cells_one (fun _ _ h => h.1) 0 rfl rfl (H_ownM0.out _ w6.heap.size) A cp n ms H_hln.out rfl H_l6.out (by unfold maxLen; omega) (by omega) (Nat.le_refl _) ?_)
  intro A7 c7 w7 own7 g7 _
  change OwnM w7 w6.heap.size A7 c7 ms at own7
  have d7 : Below w6.heap.size w6 w7 := (Below.refl _ _).grown g7 (Nat.le_refl _) (fun k e => by rw [H_hA0.out] at e; cases e)
  have D7 := H_D6.out.trans (d7.mono H_D6.out.size)
  have q7 := H_q6.out.below d7
  have s7 := d7.size
  clear u0 u1 u2 u3 u4 u5
  clear v0 v1 v2 v3 v4 v5
  clear f0 f1 f2 f3 f4 f5
  have ⟨H_own7, H_g7, H_d7, H_D7, H_q7⟩ := hid5 own7 g7 d7 D7 q7; clear own7 g7 d7 D7 q7
  have u0 := (H_q7.out 0 _ rfl).at
  have u1 := (H_q7.out 1 _ rfl).at
  have u2 := (H_q7.out 2 _ rfl).at
  have u3 := (H_q7.out 3 _ rfl).at
  have u4 := (H_q7.out 4 _ rfl).at
  have u5 := (H_q7.out 5 _ rfl).at
  have f0 := (H_q7.out 0 _ rfl).free
  have f1 := (H_q7.out 1 _ rfl).free
  have f2 := (H_q7.out 2 _ rfl).free
  have f3 := (H_q7.out 3 _ rfl).free
  have f4 := (H_q7.out 4 _ rfl).free
  have f5 := (H_q7.out 5 _ rfl).free
  have lq7 := (H_q7.out 0 _ rfl).lt
  go_upto_region 13 with (fail)
  obtain ⟨w8, hw8⟩ : ∃ W, w7.setCell ⟨g, 0, none⟩ (.slice A7 n c7) = W := ⟨_, rfl⟩
  rw [hw8]
  have D8 : Below w5.heap.size w5 w8 := by rw [← hw8]; exact below_set H_D7.out (by omega) _ _
  have own8 : OwnM w8 w6.heap.size A7 c7 ms := by rw [← hw8]; exact OwnM.set H_own7.out (by omega) _ _
  have q8 : Blk w8 g #[.slice A7 n c7, .int .i64 0, .int .i64 0, .int .u64 0, .int .i64 0, .int .i64 0] := by rw [← hw8]; exact H_q7.out.set 0 _ (by simp)
  have y8 := H_y5.out.below D8
  have i8 := H_i5.out.below D8
  have s8 : w8.heap.size ≤ w7.heap.size := by rw [← hw8]; simp
  have s8b : w7.heap.size ≤ w8.heap.size := by rw [← hw8]; simp
  have nmi8 : IntsAt w8 NM.A .i64 NM.a := by rw [H_hNM.out]; exact i8
  clear u0 u1 u2 u3 u4 u5
  clear f0 f1 f2 f3 f4 f5
  have ⟨H_hw8, H_D8, H_own8, H_q8, H_y8, H_i8, H_nmi8⟩ := hid7 hw8 D8 own8 q8 y8 i8 nmi8; clear hw8 D8 own8 q8 y8 i8 nmi8
  have u0 := (H_q8.out 0 _ rfl).at
  have u1 := (H_q8.out 1 _ rfl).at
  have u2 := (H_q8.out 2 _ rfl).at
  have u3 := (H_q8.out 3 _ rfl).at
  have u4 := (H_q8.out 4 _ rfl).at
  have u5 := (H_q8.out 5 _ rfl).at
  have v0 := (H_y8.out 0 _ rfl).at
  have v1 := (H_y8.out 1 _ rfl).at
  have v2 := (H_y8.out 2 _ rfl).at
  have v3 := (H_y8.out 3 _ rfl).at
  have v4 := (H_y8.out 4 _ rfl).at
  have lq8 := (H_q8.out 0 _ rfl).lt
  have ly8 := (H_y8.out 0 _ rfl).lt
  go_wp2_with (at_builtin; refine wp_app_gen (At := MsAt) _ rfl (.tmp 83) (.tmp 85) _ rfl i0 _ 56 Tryd.underlying28 H_hi0.out H_hz0.out H_hz1.out H_hz2.out rfl (by decide) Msg.cells_len Msg.cells_one (fun _ _ h => h.1) n H_hln.out rfl (OwnRows.alloc H_own8.out _) (some ⟨w8.heap.size, 0, none⟩) 1 1 [NM] rfl rfl (rows_new1 (At := MsAt) w8 NM _ _ _ rfl rfl ⟨H_eN.out.symm, H_nmF.out, H_nmc.out, H_nmi8.out.below ((Below.refl _ _).alloc (Nat.le_refl _) _)⟩) (by unfold maxLen; omega) (by omega) (by simp; omega) ?_)
  intro A9 c9 w9 own9 g9 _
  have e9 : Below w6.heap.size w8 w9 := ((Below.refl w6.heap.size w8).alloc (by omega) _).grown g9 (by simp; omega) (fun k e => (OwnRows.lt H_own8.out k e).1)
  have D9 := H_D8.out.trans (e9.mono (show w5.heap.size ≤ w6.heap.size by omega))
  have s9 := e9.size
  have q9 := Blk.lower H_q8.out e9 (by omega) s9
  have l9 := H_l5.out.below D9
  have i9 := H_i5.out.below D9
  have M9 : Msgs w9 A9 (ms ++ [NM]) := OwnM.msgs own9 (fun m hm => by
    rcases List.mem_append.1 hm with hm | hm
    · exact l9.all m hm
    · rw [List.mem_singleton] at hm; rw [hm]; exact ⟨H_nmF.out, H_nmc.out, by rw [H_hNM.out]; exact i9⟩)
  clear u0 u1 u2 u3 u4 u5
  clear v0 v1 v2 v3 v4
  have ⟨H_own9, H_g9, H_e9, H_D9, H_q9, H_l9, H_i9, H_M9⟩ := hid8 own9 g9 e9 D9 q9 l9 i9 M9; clear own9 g9 e9 D9 q9 l9 i9 M9
  have u0 := (H_q9.out 0 _ rfl).at
  have u1 := (H_q9.out 1 _ rfl).at
  have u2 := (H_q9.out 2 _ rfl).at
  have u3 := (H_q9.out 3 _ rfl).at
  have u4 := (H_q9.out 4 _ rfl).at
  have u5 := (H_q9.out 5 _ rfl).at
  have f0 := (H_q9.out 0 _ rfl).free
  have f1 := (H_q9.out 1 _ rfl).free
  have f2 := (H_q9.out 2 _ rfl).free
  have f3 := (H_q9.out 3 _ rfl).free
  have f4 := (H_q9.out 4 _ rfl).free
  have f5 := (H_q9.out 5 _ rfl).free
  have lq9 := (H_q9.out 0 _ rfl).lt
  go_upto_region 14 with (fail)
  obtain ⟨w10, hw10⟩ : ∃ W, w9.setCell ⟨g, 0, none⟩ (.slice A9 (n + 1) c9) = W := ⟨_, rfl⟩
  rw [hw10]
  have D10 : Below w5.heap.size w5 w10 := by rw [← hw10]; exact below_set H_D9.out (by omega) _ _
  have bb10 := H_bb5.out.trans (D10.mono H_bb5.out.size)
  have q10 : Blk w10 g #[.slice A9 (n + 1) c9, .int .i64 0, .int .i64 0, .int .u64 0, .int .i64 0, .int .i64 0] := by rw [← hw10]; exact H_q9.out.set 0 _ (by simp)
  have r10 := H_r5.out.below D10
  have hXg : ∀ b', b' < w6.heap.size → ∀ b'' off, ms ++ [NM] ≠ [] → A9 = some ⟨b'', off, none⟩ → b'' ≠ b' := fun b' hb b'' off _ e => by have := OwnRows.lt H_own9.out b'' (by rw [e]; rfl); omega
  have hMg : ∀ b', w5.heap.size ≤ b' ∨ b' = w.heap.size + 1 → ∀ m ∈ ms ++ [NM], ∀ b'' off, m.a ≠ [] → m.A = some ⟨b'', off, none⟩ → b'' ≠ b' := fun b' hb m hm b'' off h1 h2 => by
    rcases List.mem_append.1 hm with hm | hm
    · obtain ⟨x, e, hx⟩ := (H_hl.out.all m hm).2.2.lt (List.length_pos_iff.2 h1)
      rw [h2] at e; have e : b'' = x := Option.some.inj e; omega
    · rw [List.mem_singleton] at hm; subst hm
      rw [H_hNM.out] at h1 h2
      have := H_hA5.out b'' off h1 h2; omega
  have x10 : Msgs w10 A9 (ms ++ [NM]) := by
    rw [← hw10]; exact putL_msgs (hXg g (by omega)) (hMg g (.inl (by omega))) [.slice A9 (n + 1) c9] w9 0 H_M9.out
  have hlen : (ms ++ [NM]).length = n + 1 := by rw [List.length_append, H_hln.out]; rfl
  have qCh := fun W h1 => rChainM_any A9 c9 (n + 1) (ms ++ [NM]) hlen (by omega) H_hv2.out W h1
  have ci := chI_in (ms ++ [NM])
  have hfit : HFit ⟨party, (n : Int) + 1, chI (ms ++ [NM]), 0, 0⟩ := ⟨hp, ⟨by show _ ≤ (n : Int) + 1; omega, by show (n : Int) + 1 ≤ _; omega⟩, ci, by show (-9223372036854775808 : Int) ≤ 0 ∧ (0 : Int) ≤ 9223372036854775807; omega, by show (-9223372036854775808 : Int) ≤ 0 ∧ (0 : Int) ≤ 9223372036854775807; omega⟩
  have qY := fun W => rSays_any ⟨party, (n : Int) + 1, chI (ms ++ [NM]), 0, 0⟩ hfit W
  have qG := fun W Y h1 => rsign_all sec once Y 4 4 (sayI ⟨party, (n : Int) + 1, chI (ms ++ [NM]), 0, 0⟩) rfl W h1 (by omega) (say_fit hfit)
  have e7 : (Hd.mk party ((n : Int) + 1) (chI (ms ++ [NM])) 0 0).cells.toArray = #[.int .i64 party, .int .i64 ((n : Int) + 1), .int .u64 (chI (ms ++ [NM])), .int .i64 0, .int .i64 0] := rfl
  rw [e7] at qY
  unfold New4 at qY
  have cn : ((n + 1 : Nat) : Int) = (n : Int) + 1 := by omega
  clear e7
  generalize hCH : chI (ms ++ [NM]) = CH at *
  generalize hSY : sayI ⟨party, (n : Int) + 1, CH, 0, 0⟩ = SY at *
  generalize hEE : sgnE sec once SY = EE at *
  generalize hSS : sgnS sec once SY = SS at *
  clear u0 u1 u2 u3 u4 u5
  clear f0 f1 f2 f3 f4 f5
  have ⟨H_hw10, H_D10, H_bb10, H_q10, H_r10, H_hXg, H_hMg, H_x10⟩ := hid8 hw10 D10 bb10 q10 r10 hXg hMg x10; clear hw10 D10 bb10 q10 r10 hXg hMg x10; have ⟨H_hlen, H_qCh, H_hfit, H_qY, H_qG, H_hCH, H_hSY, H_hEE⟩ := hid8 hlen qCh hfit qY qG hCH hSY hEE; clear hlen qCh hfit qY qG hCH hSY hEE; have ⟨H_hSS, H_ci, H_cn⟩ := hid3 hSS ci cn; clear hSS ci cn
  have u0 := (H_q10.out 0 _ rfl).at
  have u1 := (H_q10.out 1 _ rfl).at
  have u2 := (H_q10.out 2 _ rfl).at
  have u3 := (H_q10.out 3 _ rfl).at
  have u4 := (H_q10.out 4 _ rfl).at
  have u5 := (H_q10.out 5 _ rfl).at
  go_wp2_with fail
  (with_reducible refine (H_qCh.out _ ?_).mono ?_)
  · exact H_x10.out.below (show Below w10.heap.size w10 _ from belt)
  rintro e w11 ⟨rfl, b11⟩
  have c11 : Below w10.heap.size w10 w11 := Below.trans belt (b11.mono omh)
  have s11 := c11.size
  have bb11 := H_bb10.out.trans (c11.mono H_bb10.out.size)
  have q11 := H_q10.out.below c11
  have r11 := H_r10.out.below c11
  have x11 := H_x10.out.below c11
  have ⟨H_b11, H_c11, H_bb11, H_q11, H_r11, H_x11⟩ := hid6 b11 c11 bb11 q11 r11 x11; clear b11 c11 bb11 q11 r11 x11
  clear u0 u1 u2 u3 u4 u5
  have u0 := (H_q11.out 0 _ rfl).at
  have u1 := (H_q11.out 1 _ rfl).at
  have u2 := (H_q11.out 2 _ rfl).at
  have u3 := (H_q11.out 3 _ rfl).at
  have u4 := (H_q11.out 4 _ rfl).at
  have u5 := (H_q11.out 5 _ rfl).at
  have f0 := (H_q11.out 0 _ rfl).free
  have f1 := (H_q11.out 1 _ rfl).free
  have f2 := (H_q11.out 2 _ rfl).free
  have f3 := (H_q11.out 3 _ rfl).free
  have f4 := (H_q11.out 4 _ rfl).free
  have f5 := (H_q11.out 5 _ rfl).free
  have lq11 := (H_q11.out 0 _ rfl).lt
  go_upto_region 15 with (fail)
  obtain ⟨w12, hw12⟩ : ∃ W, ((((w11.setCell ⟨g, 1, none⟩ (.int .i64 party)).setCell ⟨g, 2, none⟩ (.int .i64 ((n : Int) + 1))).setCell ⟨g, 3, none⟩ (.int .u64 CH)).setCell ⟨g, 4, none⟩ (.int .i64 0)).setCell ⟨g, 5, none⟩ (.int .i64 0) = W := ⟨_, rfl⟩
  rw [hw12]
  have ng : g ≠ w.heap.size + 1 := by omega
  have q12 : Blk w12 g #[.slice A9 (n + 1) c9, .int .i64 party, .int .i64 ((n : Int) + 1), .int .u64 CH, .int .i64 0, .int .i64 0] := by rw [← hw12]; exact ((((H_q11.out.set 1 _ (by simp)).set 2 _ (by simp)).set 3 _ (by simp)).set 4 _ (by simp)).set 5 _ (by simp)
  have r12 : Blk w12 (w.heap.size + 1) #[.slice none 0 0, .int .i64 0, .int .i64 0, .int .u64 0, .int .i64 0, .int .i64 0] := by rw [← hw12]; exact putL_far H_r11.out ng 1 [.int .i64 party, .int .i64 ((n : Int) + 1), .int .u64 CH, .int .i64 0, .int .i64 0]
  have x12 : Msgs w12 A9 (ms ++ [NM]) := by rw [← hw12]; exact putL_msgs (H_hXg.out g (by omega)) (H_hMg.out g (.inl (by omega))) [.int .i64 party, .int .i64 ((n : Int) + 1), .int .u64 CH, .int .i64 0, .int .i64 0] w11 1 H_x11.out
  have bb12 : Below w.heap.size w w12 := by rw [← hw12]; exact putL_below (by omega) [.int .i64 party, .int .i64 ((n : Int) + 1), .int .u64 CH, .int .i64 0, .int .i64 0] w11 1 H_bb11.out
  clear u0 u1 u2 u3 u4 u5
  clear f0 f1 f2 f3 f4 f5
  have ⟨H_hw12, H_q12, H_r12, H_x12, H_bb12⟩ := hid5 hw12 q12 r12 x12 bb12; clear hw12 q12 r12 x12 bb12
  have u0 := (H_q12.out 0 _ rfl).at
  have u1 := (H_q12.out 1 _ rfl).at
  have u2 := (H_q12.out 2 _ rfl).at
  have u3 := (H_q12.out 3 _ rfl).at
  have u4 := (H_q12.out 4 _ rfl).at
  have u5 := (H_q12.out 5 _ rfl).at
  go_wp2_with fail
  (with_reducible refine (H_qY.out _).mono ?_)
  rintro e w13 ⟨b13, rfl, h13, b13⟩
  have c13 : Below w12.heap.size w12 w13 := Below.trans belt (b13.mono omh)
  have s13 := c13.size
  have bb13 := H_bb12.out.trans (c13.mono H_bb12.out.size)
  have q13 := H_q12.out.below c13
  have r13 := H_r12.out.below c13
  have x13 := H_x12.out.below c13
  have ⟨H_b13, H_c13, H_bb13, H_q13, H_r13, H_x13⟩ := hid6 b13 c13 bb13 q13 r13 x13; clear b13 c13 bb13 q13 r13 x13
  clear u0 u1 u2 u3 u4 u5
  go_wp2_with fail
  (with_reducible refine (H_qG.out _ _ ?_).mono ?_)
  · exact h13
  rintro e w14 ⟨rfl, b14⟩
  have c14 : Below w13.heap.size w13 w14 := Below.trans belt (b14.mono omh)
  have s14 := c14.size
  have bb14 := H_bb13.out.trans (c14.mono H_bb13.out.size)
  have q14 := H_q13.out.below c14
  have r14 := H_r13.out.below c14
  have x14 := H_x13.out.below c14
  have ⟨H_b14, H_c14, H_bb14, H_q14, H_r14, H_x14⟩ := hid6 b14 c14 bb14 q14 r14 x14; clear b14 c14 bb14 q14 r14 x14
  have u0 := (H_q14.out 0 _ rfl).at
  have u1 := (H_q14.out 1 _ rfl).at
  have u2 := (H_q14.out 2 _ rfl).at
  have u3 := (H_q14.out 3 _ rfl).at
  have u4 := (H_q14.out 4 _ rfl).at
  have u5 := (H_q14.out 5 _ rfl).at
  have f0 := (H_q14.out 0 _ rfl).free
  have f1 := (H_q14.out 1 _ rfl).free
  have f2 := (H_q14.out 2 _ rfl).free
  have f3 := (H_q14.out 3 _ rfl).free
  have f4 := (H_q14.out 4 _ rfl).free
  have f5 := (H_q14.out 5 _ rfl).free
  have lq14 := (H_q14.out 0 _ rfl).lt
  go_upto_region 16 with (fail)
  obtain ⟨w15, hw15⟩ : ∃ W, (w14.setCell ⟨g, 4, none⟩ (.int .i64 EE)).setCell ⟨g, 5, none⟩ (.int .i64 SS) = W := ⟨_, rfl⟩
  rw [hw15]
  have q15 : Blk w15 g #[.slice A9 (n + 1) c9, .int .i64 party, .int .i64 ((n : Int) + 1), .int .u64 CH, .int .i64 EE, .int .i64 SS] := by rw [← hw15]; exact (H_q14.out.set 4 _ (by simp)).set 5 _ (by simp)
  have r15 : Blk w15 (w.heap.size + 1) #[.slice none 0 0, .int .i64 0, .int .i64 0, .int .u64 0, .int .i64 0, .int .i64 0] := by rw [← hw15]; exact putL_far H_r14.out ng 4 [.int .i64 EE, .int .i64 SS]
  have x15 : Msgs w15 A9 (ms ++ [NM]) := by rw [← hw15]; exact putL_msgs (H_hXg.out g (by omega)) (H_hMg.out g (.inl (by omega))) [.int .i64 EE, .int .i64 SS] w14 4 H_x14.out
  have bb15 : Below w.heap.size w w15 := by rw [← hw15]; exact putL_below (by omega) [.int .i64 EE, .int .i64 SS] w14 4 H_bb14.out
  clear u0 u1 u2 u3 u4 u5
  clear f0 f1 f2 f3 f4 f5
  have ⟨H_hw15, H_q15, H_r15, H_x15, H_bb15⟩ := hid5 hw15 q15 r15 x15 bb15; clear hw15 q15 r15 x15 bb15
  have u0 := (H_q15.out 0 _ rfl).at
  have u1 := (H_q15.out 1 _ rfl).at
  have u2 := (H_q15.out 2 _ rfl).at
  have u3 := (H_q15.out 3 _ rfl).at
  have u4 := (H_q15.out 4 _ rfl).at
  have u5 := (H_q15.out 5 _ rfl).at
  have z0 := (H_r15.out 0 _ rfl).at
  have z1 := (H_r15.out 1 _ rfl).at
  have z2 := (H_r15.out 2 _ rfl).at
  have z3 := (H_r15.out 3 _ rfl).at
  have z4 := (H_r15.out 4 _ rfl).at
  have z5 := (H_r15.out 5 _ rfl).at
  have f0 := (H_r15.out 0 _ rfl).free
  have f1 := (H_r15.out 1 _ rfl).free
  have f2 := (H_r15.out 2 _ rfl).free
  have f3 := (H_r15.out 3 _ rfl).free
  have f4 := (H_r15.out 4 _ rfl).free
  have f5 := (H_r15.out 5 _ rfl).free
  have lr := (H_r15.out 0 _ rfl).lt
  have lq15 := (H_q15.out 0 _ rfl).lt
  have gw9 : Below w.heap.size w (putL w15 (w.heap.size + 1) 0 [.slice A9 (n + 1) c9, .int .i64 party, .int .i64 ((n : Int) + 1), .int .u64 CH, .int .i64 EE, .int .i64 SS]) := putL_below (by omega) _ _ _ H_bb15.out
  have gx9 : Msgs (putL w15 (w.heap.size + 1) 0 [.slice A9 (n + 1) c9, .int .i64 party, .int .i64 ((n : Int) + 1), .int .u64 CH, .int .i64 EE, .int .i64 SS]) A9 (ms ++ [NM]) := putL_msgs (H_hXg.out (w.heap.size + 1) (by omega)) (H_hMg.out _ (.inr rfl)) _ _ _ H_x15.out
  simp only [putL, Nat.reduceAdd] at gw9 gx9
  have fin : apH (ms ++ [NM]) party sec once = ⟨party, (n : Int) + 1, CH, EE, SS⟩ := by
    rw [← H_hEE.out, ← H_hSS.out, ← H_hSY.out, ← H_hCH.out, apH, H_hlen.out, H_cn.out]
  have ⟨H_gw9, H_gx9, H_fin⟩ := hid3 gw9 gx9 fin; clear gw9 gx9 fin
  go_wp2_with fail
  refine bodyPost_ret (v := .tuple #[.agg #[.slice A9 (n + 1) c9, .int .i64 party, .int .i64 ((n : Int) + 1), .int .u64 CH, .int .i64 EE, .int .i64 SS], .int .i64 0]) (by simp [results, Tryd.results21, go_sem, *]) rfl ?_
  refine Or.inr ⟨H_eE.out, A9, c9, A1, c1, ?_, ?_, H_gw9.out, fun b off e => ?_, fun b off h1 h2 => ?_, ?_, ?_⟩
  · rw [H_hln.out, ← H_hNM.out, H_fin.out, H_hCH.out]
  · rw [H_hln.out, ← H_hNM.out]; exact H_gx9.out
  · have := OwnRows.lt H_own9.out b (by rw [e]; rfl); omega
  · have := H_hA1.out b off h1 h2; omega
  · have := (OwnRows.cap H_own9.out).1; rw [H_hlen.out] at this; rw [H_hln.out]; exact this
  · exact (OwnRows.cap H_own9.out).2
section
open Go.RowKit Go.ChangeShapes Go.WideShapes Go.ChangeAt
theorem read_msgat {H : Type} {enc : TypeId × Value → H} {W : World} {held : Bool} (fuel : Nat) (cs : List Value) (x : DataW H × List MemPlace) (hl : cs.length = 5) (h : DataW.trod enc Tryd.prog W 0 (fun _ => true) held fuel 47 cs = some x) : ∃ z, MsAt W cs z := by
  match cs, hl with
  | [c0, c1, c2, c3, c4], _ =>
    obtain ⟨z, rfl, rfl, rfl, rfl, rfl, hz⟩ := read_msg h
    exact ⟨z, rfl, hz.fit, hz.room, hz.ints⟩
/-- a journal that came in -/
structure JArg (w : World) (A : Option Addr) (c : Nat) (l : List Msg) (h : Hd) : Prop where
  at_ : Msgs w A l
  room : l.length ≤ c
  max : c ≤ 9223372036854775807
  fit : HFit h
theorem open_journal {H : Type} {enc : TypeId × Value → H} {W : World} {base : Nat} {held : Bool} {v : Value} {d : DataW H} {p : List MemPlace} (hv : Value.okWide Tryd.prog W .any base 35 v) (h : DataW.Trod enc Tryd.prog W 0 (fun _ => true) held 35 v d p) :
    ∃ (A : Option Addr) (c : Nat) (l : List Msg) (h : Hd), v = .agg #[.slice A l.length c, .int .i64 h.p, .int .i64 h.n, .int .u64 h.c, .int .i64 h.e, .int .i64 h.s] ∧ JArg W A c l h := by
  obtain ⟨cs, rfl, hsz⟩ := okWide_struct Tryd.underlying35 hv
  have e : Tryd.prog.cellsOf 35 = 6 := by kernel_rfl
  have hl : cs.toList.length = 6 := by rw [Array.length_toList, hsz, e]
  obtain ⟨fuel, hf⟩ := h
  obtain ⟨L⟩ := cs
  match L, hl with
  | [c0, c1, c2, c3, c4, c5], _ =>
    have hf' : DataW.trod enc Tryd.prog W 0 (fun _ => true) held fuel 35 [c0, c1, c2, c3, c4, c5] = some (d, p) := hf
    obtain ⟨xs, n, _, _, _, hlen, hg⟩ := DataW.trod_struct Tryd.underlying35 hf'
    have hx : xs.length = 2 := hlen
    match xs, hx with
    | [y0, y1], _ =>
      have e1 : Tryd.prog.cellsOf 3 = 1 := by kernel_rfl
      have e2 : Tryd.prog.cellsOf 28 = 1 := by kernel_rfl
      have e3 : Tryd.prog.cellsOf 33 = 5 := by kernel_rfl
      have e4 : Tryd.prog.cellsOf 31 = 2 := by kernel_rfl
      have e5 : Tryd.prog.cellsOf 29 = 1 := by kernel_rfl
      have g0 := hg 0 _ rfl
      have g1 := hg 1 _ rfl
      simp [e2, e3] at g0 g1
      obtain ⟨A, c, l, rfl, hr, hc, hm⟩ := read_rows (C := 5) (At := MsAt) (by decide) Tryd.underlying28 (by kernel_rfl) read_msgat g0
      obtain ⟨zs, n2, _, _, _, hlen2, hg2⟩ := DataW.trod_struct Tryd.underlying33 g1
      have hz : zs.length = 4 := hlen2
      match zs, hz with
      | [z0, z1, z2, z3], _ =>
        have k0 := hg2 0 _ rfl
        have k1 := hg2 1 _ rfl
        have k2 := hg2 2 _ rfl
        have k3 := hg2 3 _ rfl
        simp [e1, e4, e5] at k0 k1 k2 k3
        obtain ⟨a0, rfl, v0⟩ := read_int Tryd.underlying3 k0
        obtain ⟨a1, rfl, v1⟩ := read_int Tryd.underlying3 k1
        obtain ⟨a2, rfl, v2⟩ := read_int Tryd.underlying29 k2
        obtain ⟨ys, n3, _, _, _, hlen3, hg3⟩ := DataW.trod_struct Tryd.underlying31 k3
        have hy : ys.length = 2 := hlen3
        match ys, hy with
        | [x0, x1], _ =>
          have j0 := hg3 0 _ rfl
          have j1 := hg3 1 _ rfl
          simp [e1] at j0 j1
          obtain ⟨a3, rfl, v3⟩ := read_int Tryd.underlying3 j0
          obtain ⟨a4, rfl, v4⟩ := read_int Tryd.underlying3 j1
          unfold maxLen at hm
          exact ⟨A, c, l, ⟨a0, a1, a2, a3, a4⟩, rfl, hr, hc, hm, ⟨wf_i64 v0, wf_i64 v1, wf_u64 v2, wf_i64 v3, wf_i64 v4⟩⟩
end
/-- the integers of the messages of a journal that was appended to, or none -/
def outL (ms : List Msg) (party time kind : Int) (a : List Int) (E : Int) : List (List Int) := if E = 0 then ms.map msI ++ [party :: ((ms.length : Int) + 1) :: time :: kind :: a] else []
/-- its head -/
def outH (L : List (List Int)) (party sec once E : Int) : Hd := if E = 0 then ⟨party, L.length, chainB L, sgnE sec once (sayI ⟨party, L.length, chainB L, 0, 0⟩), sgnS sec once (sayI ⟨party, L.length, chainB L, 0, 0⟩)⟩ else hd0
def OutJ (E : Int) (HH : Hd) (LL : List (List Int)) (w : World) (e : Ending) (w' : World) : Prop := ∃ (X : Option Addr) (c : Nat) (M : List Msg),
  e = .returned (.tuple #[.agg #[.slice X LL.length c, .int .i64 HH.p, .int .i64 HH.n, .int .u64 HH.c, .int .i64 HH.e, .int .i64 HH.s], .int .i64 E]) ∧ Msgs w' X M ∧ Below w.heap.size w w' ∧ M.map msI = LL ∧ ∀ x ∈ M, x.a.length ≤ 1000000
theorem app_out {ms : List Msg} {h : Hd} {party time kind : Int} {a : List Int} {sec once : Int} {w w' : World} {e : Ending} (hla : a.length ≤ 1000000) (hms : ∀ x ∈ ms, x.a.length ≤ 1000000) (hA : AppAt ms h party time kind a sec once w e w') :
    OutJ (apE ms h party time kind a sec once) (outH (outL ms party time kind a (apE ms h party time kind a sec once)) party sec once (apE ms h party time kind a sec once)) (outL ms party time kind a (apE ms h party time kind a sec once)) w e w' := by
  rcases hA with ⟨hE, he, hb⟩ | ⟨hE, X, c, B, k, he, hm, hb, _⟩
  · rw [outH, if_neg hE, outL, if_neg hE]
    exact ⟨none, 0, [], he, RowsAt.nil, hb, rfl, fun x hx => by cases hx⟩
  · rw [hE]
    have hL : (ms ++ [newM party ms.length time kind B k a]).map msI = outL ms party time kind a 0 := by rw [outL, if_pos rfl, List.map_append]; rfl
    have hlen : (outL ms party time kind a 0).length = ms.length + 1 := by rw [← hL]; simp
    have hc : chI (ms ++ [newM party ms.length time kind B k a]) = chainB (outL ms party time kind a 0) := by rw [chI, hL]
    have hn2 : ((ms ++ [newM party ms.length time kind B k a]).length : Int) = (ms.length : Int) + 1 := by simp
    refine ⟨X, c, _, ?_, hm, hb, hL, fun x hx => ?_⟩
    · have hcast : ((ms.length + 1 : Nat) : Int) = (ms.length : Int) + 1 := by omega
      rw [he, apH, hc, outH, if_pos rfl, hlen, hn2, hcast]
    · rcases List.mem_append.1 hx with hx | hx
      · exact hms x hx
      · rw [List.mem_singleton] at hx; rw [hx]; exact hla
theorem outH_fit {L : List (List Int)} {party sec once E : Int} (hp : -9223372036854775808 ≤ party ∧ party ≤ 9223372036854775807) (hL : L.length ≤ 1000000) : HFit (outH L party sec once E) := by
  unfold outH
  split
  · exact ⟨hp, ⟨by show _ ≤ (L.length : Int); omega, by show (L.length : Int) ≤ _; omega⟩, chainB_in L, (sgn_fit _ _ _).1, (sgn_fit _ _ _).2⟩
  · exact fit0
theorem outL_len (ms : List Msg) (party time kind : Int) (a : List Int) (E : Int) : (outL ms party time kind a E).length ≤ ms.length + 1 := by
  unfold outL
  split <;> simp
theorem same_out {M K : List Msg} {L : List (List Int)} (HH : Hd) (h1 : M.map msI = L) (h2 : K.map msI = L) : sameJB M HH K HH = true := by
  rw [sameJB, h1, h2, heqB]; simp
theorem argL_len (x : Msg) : (argL x).length ≤ 1000 := by
  unfold argL
  split
  · rename_i h; have := msgB_len h; simp [msI]; omega
  · simp
set_option maxHeartbeats 64000000 in
set_option maxRecDepth 100000 in
theorem journalMatchesReference_walk (A : Option Addr) (cp : Nat) (ms : List Msg) (h : Hd) (B : Option Addr) (cq : Nat) (ns : List Msg) (g : Hd) (party time kind : Int) (I : Option Addr) (ci : Nat) (a : List Int) (sec once pub : Int) (x : Msg) (w : World) (ja : JArg w A cp ms h) (jb : JArg w B cq ns g)
    (hp0 : (Lit.int .i64 party).wf = true) (ht0 : (Lit.int .i64 time).wf = true) (hk0 : (Lit.int .i64 kind).wf = true) (hi : IntsAt w I .i64 a) (hic : a.length ≤ ci) (him : ci ≤ maxLen) (_ : ∀ n ∈ a, (Lit.int .i64 n).wf = true) (_ : (Lit.int .i64 sec).wf = true) (_ : (Lit.int .i64 once).wf = true) (_ : (Lit.int .i64 pub).wf = true) (fx : MsgArg w x) (ht : JTab w) :
    Calls Tryd.prog 6 #[.agg #[.slice A ms.length cp, .int .i64 h.p, .int .i64 h.n, .int .u64 h.c, .int .i64 h.e, .int .i64 h.s], .agg #[.slice B ns.length cq, .int .i64 g.p, .int .i64 g.n, .int .u64 g.c, .int .i64 g.e, .int .i64 g.s], .int .i64 party, .int .i64 time, .int .i64 kind, .slice I a.length ci, .int .i64 sec, .int .i64 once, .int .i64 pub, .agg x.cells.toArray] w fun e w' => e = .returned (.bool true) ∧ Below w.heap.size w w' := by
  unfold maxLen at him
  obtain ⟨n, hln⟩ : ∃ n, ms.length = n := ⟨_, rfl⟩
  obtain ⟨k, hlk⟩ : ∃ k, ns.length = k := ⟨_, rfl⟩
  obtain ⟨an, hla⟩ : ∃ n, a.length = n := ⟨_, rfl⟩
  obtain ⟨xn, hxn⟩ : ∃ n, x.a.length = n := ⟨_, rfl⟩
  have hpf := wf_i64 hp0
  have htf := wf_i64 ht0
  have hkf := wf_i64 hk0
  have ex : x.cells.toArray = #[.int .i64 x.p, .int .i64 x.s, .int .i64 x.t, .int .i64 x.k, .slice x.A xn x.c] := by rw [← hxn]; rfl
  have na := ja.room
  have nb := jb.room
  have ma := ja.max
  have mb := jb.max
  have nx := fx.room
  have mx := fx.max
  rw [hln] at na
  rw [hlk] at nb
  rw [hxn] at nx
  rw [hla] at hic
  have fwa := @fwm_parts ms
  have fwb := @fwm_parts ns
  have q1 := fun W h1 h2 => head39_any W h1 h2
  have qfa := fun W h1 => rFew_any A cp n ms hln (by omega) W h1
  have qfb := fun W h1 => rFew_any B cq k ns hlk (by omega) W h1
  have qap := fun (h60 : n ≤ 60) (h40 : an ≤ 40) (hm : ∀ y ∈ ms, y.a.length ≤ 40) W h1 h2 h3 h4 => (jappend_any A cp n ms h party time kind I ci an a sec once hln (by omega) ja.fit hpf htf hkf hla (by omega) W h1 h2 h3 h4).mono (fun _ _ hh => app_out (by omega) (fun y hy => by have := hm y hy; omega) hh)
  have qar := fun (h60 : n ≤ 60) (h40 : an ≤ 40) (hm : ∀ y ∈ ms, y.a.length ≤ 40) W h1 h2 => (rappend_any A cp n ms h party time kind I ci an a sec once hln (by omega) ja.fit hpf htf hkf hla (by omega) W h1 h2).mono (fun _ _ hh => app_out (by omega) (fun y hy => by have := hm y hy; omega) hh)
  have qcp := fun W h1 h2 h3 => jcheck_any A cp n ms h party pub hln (by omega) ja.fit hpf W h1 h2 h3
  have qcr := fun W h1 => rCheck_any A cp n ms h party pub hln (by omega) ja.fit W h1
  have qkp := fun W h1 h2 h3 h4 => jforks_any A cp n ms h B cq k ns g party pub hln hlk (by omega) (by omega) na nb ja.fit jb.fit hpf W h1 h2 h3 h4
  have qkr := fun (h60 : n ≤ 60) (k60 : k ≤ 60) (hm : ∀ y ∈ ms, y.a.length ≤ 40) (hn : ∀ y ∈ ns, y.a.length ≤ 40) W h1 h2 => rForks_any A cp n ms h B cq k ns g party pub hln hlk (by omega) (by omega) ja.fit jb.fit (fun y hy => by have := hm y hy; omega) (fun y hy => by have := hn y hy; omega) W h1 h2
  have qgp := fun W h1 h2 => jargs_any x fx.fit W h1 h2
  have qgr := fun W h1 => rargs_any x fx.fit W h1
  have hLn := argL_len x
  rw [ex] at qgp qgr ⊢
  have ha0 := ja.at_
  have hb0 := jb.at_
  have hx0 := fx.ints
  have hlo := outL_len ms party time kind a (apE ms h party time kind a sec once)
  have hoF := fun (hL : (outL ms party time kind a (apE ms h party time kind a sec once)).length ≤ 1000000) => outH_fit (sec := sec) (once := once) (E := apE ms h party time kind a sec once) hpf hL
  rw [hln, hlk, hla]
  rw [hln] at fwa hlo
  rw [hlk] at fwb
  unfold OwnErr at qgp qgr
  unfold OutJ at qap qar
  obtain ⟨w0, hw0⟩ : ∃ W, ((w.alloc (.cells #[.slice A n cp, .int .i64 h.p, .int .i64 h.n, .int .u64 h.c, .int .i64 h.e, .int .i64 h.s] 35)).alloc (.cells #[.slice B k cq, .int .i64 g.p, .int .i64 g.n, .int .u64 g.c, .int .i64 g.e, .int .i64 g.s] 35)).alloc (.cells #[.int .i64 x.p, .int .i64 x.s, .int .i64 x.t, .int .i64 x.k, .slice x.A xn x.c] 47) = W := ⟨_, rfl⟩
  have bb0 : Below w.heap.size w w0 := by rw [← hw0]; exact (((Below.refl _ _).alloc (Nat.le_refl _) _).alloc (by simp) _).alloc (by simp; omega) _
  have k0 : Blk w0 w.heap.size #[.slice A n cp, .int .i64 h.p, .int .i64 h.n, .int .u64 h.c, .int .i64 h.e, .int .i64 h.s] := by rw [← hw0]; exact ((blk_new rfl).alloc _).alloc _
  have j0 : Blk w0 (w.heap.size + 1) #[.slice B k cq, .int .i64 g.p, .int .i64 g.n, .int .u64 g.c, .int .i64 g.e, .int .i64 g.s] := by rw [← hw0]; exact (blk_new (by simp)).alloc _
  have v0 : Blk w0 (w.heap.size + 2) #[.int .i64 x.p, .int .i64 x.s, .int .i64 x.t, .int .i64 x.k, .slice x.A xn x.c] := by rw [← hw0]; exact blk_new (by simp)
  have l0 := ha0.below bb0
  have r0 := hb0.below bb0
  have i0 := hi.below bb0
  have y0 := hx0.below bb0
  have t0 := ht.1.below bb0
  have m0 := ht.2.below bb0
  generalize hFA : fwmB ms = FA at *
  generalize hFB : fwmB ns = FB at *
  generalize hE : apE ms h party time kind a sec once = E at *
  generalize hLL : outL ms party time kind a E = LL at *
  generalize hHH : outH LL party sec once E = HH at *
  generalize hNL : LL.length = NL at *
  have hso := fun (M K : List Msg) (h1 : M.map msI = LL) (h2 : K.map msI = LL) => same_out HH h1 h2
  have qso := fun (M K : List Msg) X1 d1 Y1 e1 (h1 : M.map msI = LL) (h2 : K.map msI = LL) (h3 : ∀ y ∈ M, y.a.length ≤ 1000000) (h4 : ∀ y ∈ K, y.a.length ≤ 1000000) (h5 : NL ≤ 1000000) W m1 m2 => rSameJ_any X1 d1 NL M HH Y1 e1 NL K HH (by rw [← hNL, ← h1, List.length_map]) (by rw [← hNL, ← h2, List.length_map]) h5 h5 (hoF h5) (hoF h5) h3 h4 W m1 m2
  generalize chkV ms h party pub = CV at *
  generalize chkE party pub = CE at *
  generalize frkV ms h ns g party pub = KV at *
  generalize frkE ms h ns g party pub = KE at *
  generalize argE x = GE at *
  generalize argL x = GL at *
  generalize hGN : GL.length = GN at *
  generalize h.p = p1 at *
  generalize h.n = p2 at *
  generalize h.c = p3 at *
  generalize h.e = p4 at *
  generalize h.s = p5 at *
  generalize g.p = g1 at *
  generalize g.n = g2 at *
  generalize g.c = g3 at *
  generalize g.e = g4 at *
  generalize g.s = g5 at *
  generalize HH.p = o1 at *
  generalize HH.n = o2 at *
  generalize HH.c = o3 at *
  generalize HH.e = o4 at *
  generalize HH.s = o5 at *
  generalize x.p = x1 at *
  generalize x.s = x2 at *
  generalize x.t = x3 at *
  generalize x.k = x4 at *
  generalize x.A = x5 at *
  generalize x.c = x6 at *
  clear ex
  have ⟨H_hpf, H_htf, H_hkf, H_fwa, H_fwb, H_q1, H_qfa, H_qfb⟩ := hid8 hpf htf hkf fwa fwb q1 qfa qfb; clear hpf htf hkf fwa fwb q1 qfa qfb; have ⟨H_qap, H_qar, H_qcp, H_qcr, H_qkp, H_qkr, H_qgp, H_qgr⟩ := hid8 qap qar qcp qcr qkp qkr qgp qgr; clear qap qar qcp qcr qkp qkr qgp qgr; have ⟨H_ha0, H_hb0, H_hx0, H_hoF, H_hw0, H_bb0, H_k0, H_j0⟩ := hid8 ha0 hb0 hx0 hoF hw0 bb0 k0 j0; clear ha0 hb0 hx0 hoF hw0 bb0 k0 j0; have ⟨H_v0, H_l0, H_r0, H_i0, H_y0, H_t0, H_m0, H_hFA⟩ := hid8 v0 l0 r0 i0 y0 t0 m0 hFA; clear v0 l0 r0 i0 y0 t0 m0 hFA; have ⟨H_hFB, H_hE, H_hLL, H_hHH, H_hNL, H_hso, H_qso, H_hGN⟩ := hid8 hFB hE hLL hHH hNL hso qso hGN; clear hFB hE hLL hHH hNL hso qso hGN; have ⟨H_ja, H_jb, H_hi, H_fx, H_ht, H_hln, H_hlk, H_hla⟩ := hid8 ja jb hi fx ht hln hlk hla; clear ja jb hi fx ht hln hlk hla; have ⟨H_hxn, H_hp0, H_ht0, H_hk0⟩ := hid4 hxn hp0 ht0 hk0; clear hxn hp0 ht0 hk0
  go_enter Tryd.func6, Tryd.ntmps6
  go_upto_region 1 with (fail)
  rw [H_hw0.out]
  go_wp2_with fail
  (with_reducible refine (H_q1.out _ ?_ ?_).mono ?_)
  · exact H_t0.out.below (show Below w0.heap.size w0 _ from belt)
  · exact H_m0.out.below (show Below w0.heap.size w0 _ from belt)
  rintro e w1 ⟨rfl, b1⟩
  have c1 : Below w0.heap.size w0 w1 := Below.trans belt (b1.mono omh)
  have s1 := c1.size
  have bb1 := H_bb0.out.trans (c1.mono H_bb0.out.size)
  have k1 := H_k0.out.below c1
  have j1 := H_j0.out.below c1
  have v1 := H_v0.out.below c1
  have l1 := H_l0.out.below c1
  have r1 := H_r0.out.below c1
  have i1 := H_i0.out.below c1
  have y1 := H_y0.out.below c1
  have t1 := H_t0.out.below c1
  have m1 := H_m0.out.below c1
  have ⟨H_b1, H_c1, H_bb1, H_k1, H_j1, H_v1, H_l1, H_r1⟩ := hid8 b1 c1 bb1 k1 j1 v1 l1 r1; clear b1 c1 bb1 k1 j1 v1 l1 r1; have ⟨H_i1, H_y1, H_t1, H_m1⟩ := hid4 i1 y1 t1 m1; clear i1 y1 t1 m1
  have u0 := (H_k1.out 0 _ rfl).at
  have u1 := (H_k1.out 1 _ rfl).at
  have u2 := (H_k1.out 2 _ rfl).at
  have u3 := (H_k1.out 3 _ rfl).at
  have u4 := (H_k1.out 4 _ rfl).at
  have u5 := (H_k1.out 5 _ rfl).at
  go_wp2_with fail
  (with_reducible refine (H_qfa.out _ H_l1.out).mono ?_)
  rintro e w_ ⟨rfl, hw_⟩
  subst hw_
  cases FA with
  | false =>
    go_wp2_with fail
    go_ret
    exact ⟨rfl, H_bb1.out⟩
  | true =>
  have z0 := (H_j1.out 0 _ rfl).at
  have z1 := (H_j1.out 1 _ rfl).at
  have z2 := (H_j1.out 2 _ rfl).at
  have z3 := (H_j1.out 3 _ rfl).at
  have z4 := (H_j1.out 4 _ rfl).at
  have z5 := (H_j1.out 5 _ rfl).at
  go_wp2_with fail
  (with_reducible refine (H_qfb.out _ H_r1.out).mono ?_)
  rintro e w_ ⟨rfl, hw_⟩
  subst hw_
  cases FB with
  | false =>
    go_wp2_with fail
    go_ret
    exact ⟨rfl, H_bb1.out⟩
  | true =>
  obtain ⟨n60, am⟩ := H_fwa.out (by simp)
  obtain ⟨k60, bm⟩ := H_fwb.out (by simp)
  have s0 := (H_v1.out 0 _ rfl).at
  have s1 := (H_v1.out 1 _ rfl).at
  have s2 := (H_v1.out 2 _ rfl).at
  have s3 := (H_v1.out 3 _ rfl).at
  have s4 := (H_v1.out 4 _ rfl).at
  by_cases h1 : 40 < an
  · have g1' : decide ((40 : Int) < (an : Int)) = true := decide_eq_true (by omega)
    have g2' : (40 : Int) < (an : Int) := by omega
    have ⟨H_am, H_bm⟩ := hid2 am bm; clear am bm
    go_wp2_with fail
    go_ret
    exact ⟨rfl, H_bb1.out⟩
  have g1' : decide ((40 : Int) < (an : Int)) = false := decide_eq_false (by omega)
  have g2' : ¬ (40 : Int) < (an : Int) := by omega
  by_cases h2 : 40 < xn
  · have g3' : decide ((40 : Int) < (xn : Int)) = true := decide_eq_true (by omega)
    have g4' : (40 : Int) < (xn : Int) := by omega
    have ⟨H_am, H_bm⟩ := hid2 am bm; clear am bm
    go_wp2_with fail
    go_ret
    exact ⟨rfl, H_bb1.out⟩
  have g3' : decide ((40 : Int) < (xn : Int)) = false := decide_eq_false (by omega)
  have g4' : ¬ (40 : Int) < (xn : Int) := by omega
  have qap := H_qap.out n60 (by omega) am
  have qar := H_qar.out n60 (by omega) am
  have qkr := H_qkr.out n60 k60 am bm
  have NL9 : NL ≤ 1000000 := by omega
  have ⟨H_qap, H_qar, H_qkr, H_am, H_bm⟩ := hid5 qap qar qkr am bm; clear qap qar qkr am bm
  go_upto_region 4 with (fail)
  clear z0 z1 z2 z3 z4 z5
  clear s0 s1 s2 s3 s4
  go_wp2_with fail
  (with_reducible refine (H_qap.out _ H_l1.out H_i1.out H_t1.out H_m1.out).mono ?_)
  rintro e w2 ⟨X, c, M, rfl, q2, b2, hM1, hM2⟩
  clear u0 u1 u2 u3 u4 u5
  have bb2 := H_bb1.out.trans (b2.mono H_bb1.out.size)
  have k2 := H_k1.out.below b2
  have j2 := H_j1.out.below b2
  have v2 := H_v1.out.below b2
  have l2 := H_l1.out.below b2
  have r2 := H_r1.out.below b2
  have i2 := H_i1.out.below b2
  have y2 := H_y1.out.below b2
  have t2 := H_t1.out.below b2
  have m2 := H_m1.out.below b2
  have ⟨H_b2, H_bb2, H_k2, H_j2, H_v2, H_l2, H_r2, H_i2⟩ := hid8 b2 bb2 k2 j2 v2 l2 r2 i2; clear b2 bb2 k2 j2 v2 l2 r2 i2; have ⟨H_y2, H_t2, H_m2, H_q2, H_hM1, H_hM2⟩ := hid6 y2 t2 m2 q2 hM1 hM2; clear y2 t2 m2 q2 hM1 hM2
  go_upto_region 5 with (fail)
  obtain ⟨w3, hw3⟩ : ∃ W, w2.alloc (.cells #[.slice X NL c, .int .i64 o1, .int .i64 o2, .int .u64 o3, .int .i64 o4, .int .i64 o5] 35) = W := ⟨_, rfl⟩
  rw [hw3]
  have d3 : Below w2.heap.size w2 w3 := by rw [← hw3]; exact (Below.refl _ _).alloc (Nat.le_refl _) _
  have p3 : Blk w3 w2.heap.size #[.slice X NL c, .int .i64 o1, .int .i64 o2, .int .u64 o3, .int .i64 o4, .int .i64 o5] := by rw [← hw3]; exact blk_new rfl
  have bb3 := H_bb2.out.trans (d3.mono H_bb2.out.size)
  have k3 := H_k2.out.below d3
  have j3 := H_j2.out.below d3
  have v3 := H_v2.out.below d3
  have l3 := H_l2.out.below d3
  have r3 := H_r2.out.below d3
  have i3 := H_i2.out.below d3
  have y3 := H_y2.out.below d3
  have t3 := H_t2.out.below d3
  have m3 := H_m2.out.below d3
  have q3 := H_q2.out.below d3
  have ⟨H_hw3, H_d3, H_p3, H_bb3, H_k3, H_j3, H_v3, H_l3⟩ := hid8 hw3 d3 p3 bb3 k3 j3 v3 l3; clear hw3 d3 p3 bb3 k3 j3 v3 l3; have ⟨H_r3, H_i3, H_y3, H_t3, H_m3, H_q3⟩ := hid6 r3 i3 y3 t3 m3 q3; clear r3 i3 y3 t3 m3 q3
  have u0 := (H_k3.out 0 _ rfl).at
  have u1 := (H_k3.out 1 _ rfl).at
  have u2 := (H_k3.out 2 _ rfl).at
  have u3 := (H_k3.out 3 _ rfl).at
  have u4 := (H_k3.out 4 _ rfl).at
  have u5 := (H_k3.out 5 _ rfl).at
  go_wp2_with fail
  (with_reducible refine (H_qar.out _ H_l3.out H_i3.out).mono ?_)
  rintro e w4 ⟨Y, d, K, rfl, z4, b4, hK1, hK2⟩
  clear u0 u1 u2 u3 u4 u5
  have bb4 := H_bb3.out.trans (b4.mono H_bb3.out.size)
  have k4 := H_k3.out.below b4
  have j4 := H_j3.out.below b4
  have v4 := H_v3.out.below b4
  have l4 := H_l3.out.below b4
  have r4 := H_r3.out.below b4
  have y4 := H_y3.out.below b4
  have t4 := H_t3.out.below b4
  have m4 := H_m3.out.below b4
  have p4 := H_p3.out.below b4
  have q4 := H_q3.out.below b4
  have ⟨H_b4, H_bb4, H_k4, H_j4, H_v4, H_l4, H_r4, H_y4⟩ := hid8 b4 bb4 k4 j4 v4 l4 r4 y4; clear b4 bb4 k4 j4 v4 l4 r4 y4; have ⟨H_t4, H_m4, H_p4, H_q4, H_z4, H_hK1, H_hK2⟩ := hid7 t4 m4 p4 q4 z4 hK1 hK2; clear t4 m4 p4 q4 z4 hK1 hK2
  go_upto_region 6 with (fail)
  obtain ⟨w5, hw5⟩ : ∃ W, w4.alloc (.cells #[.slice Y NL d, .int .i64 o1, .int .i64 o2, .int .u64 o3, .int .i64 o4, .int .i64 o5] 35) = W := ⟨_, rfl⟩
  rw [hw5]
  have d5 : Below w4.heap.size w4 w5 := by rw [← hw5]; exact (Below.refl _ _).alloc (Nat.le_refl _) _
  have n5 : Blk w5 w4.heap.size #[.slice Y NL d, .int .i64 o1, .int .i64 o2, .int .u64 o3, .int .i64 o4, .int .i64 o5] := by rw [← hw5]; exact blk_new rfl
  have bb5 := H_bb4.out.trans (d5.mono H_bb4.out.size)
  have k5 := H_k4.out.below d5
  have j5 := H_j4.out.below d5
  have v5 := H_v4.out.below d5
  have l5 := H_l4.out.below d5
  have r5 := H_r4.out.below d5
  have y5 := H_y4.out.below d5
  have t5 := H_t4.out.below d5
  have m5 := H_m4.out.below d5
  have p5 := H_p4.out.below d5
  have q5 := H_q4.out.below d5
  have z5 := H_z4.out.below d5
  have ⟨H_hw5, H_d5, H_n5, H_bb5, H_k5, H_j5, H_v5, H_l5⟩ := hid8 hw5 d5 n5 bb5 k5 j5 v5 l5; clear hw5 d5 n5 bb5 k5 j5 v5 l5; have ⟨H_r5, H_y5, H_t5, H_m5, H_p5, H_q5, H_z5⟩ := hid7 r5 y5 t5 m5 p5 q5 z5; clear r5 y5 t5 m5 p5 q5 z5
  have q6 := H_qso.out M K X c Y d H_hM1.out H_hK1.out H_hM2.out H_hK2.out NL9
  rw [H_hso.out M K H_hM1.out H_hK1.out] at q6
  have H_q6 := Lib.hid q6; clear q6
  have u0 := (H_p5.out 0 _ rfl).at
  have u1 := (H_p5.out 1 _ rfl).at
  have u2 := (H_p5.out 2 _ rfl).at
  have u3 := (H_p5.out 3 _ rfl).at
  have u4 := (H_p5.out 4 _ rfl).at
  have u5 := (H_p5.out 5 _ rfl).at
  have s0 := (H_n5.out 0 _ rfl).at
  have s1 := (H_n5.out 1 _ rfl).at
  have s2 := (H_n5.out 2 _ rfl).at
  have s3 := (H_n5.out 3 _ rfl).at
  have s4 := (H_n5.out 4 _ rfl).at
  have s5 := (H_n5.out 5 _ rfl).at
  go_wp2_with fail
  (with_reducible refine (H_q6.out _ ?_ ?_).mono ?_)
  · exact H_q5.out.below (show Below w5.heap.size w5 _ from belt)
  · exact H_z5.out.below (show Below w5.heap.size w5 _ from belt)
  rintro e w6 ⟨rfl, b6⟩
  have c6 : Below w5.heap.size w5 w6 := Below.trans belt (b6.mono omh)
  have s6 := c6.size
  have bb6 := H_bb5.out.trans (c6.mono H_bb5.out.size)
  have k6 := H_k5.out.below c6
  have j6 := H_j5.out.below c6
  have v6 := H_v5.out.below c6
  have l6 := H_l5.out.below c6
  have r6 := H_r5.out.below c6
  have y6 := H_y5.out.below c6
  have t6 := H_t5.out.below c6
  have m6 := H_m5.out.below c6
  have ⟨H_b6, H_c6, H_bb6, H_k6, H_j6, H_v6, H_l6, H_r6⟩ := hid8 b6 c6 bb6 k6 j6 v6 l6 r6; clear b6 c6 bb6 k6 j6 v6 l6 r6; have ⟨H_y6, H_t6, H_m6⟩ := hid3 y6 t6 m6; clear y6 t6 m6
  clear u0 u1 u2 u3 u4 u5
  clear s0 s1 s2 s3 s4 s5
  have u0 := (H_k6.out 0 _ rfl).at
  have u1 := (H_k6.out 1 _ rfl).at
  have u2 := (H_k6.out 2 _ rfl).at
  have u3 := (H_k6.out 3 _ rfl).at
  have u4 := (H_k6.out 4 _ rfl).at
  have u5 := (H_k6.out 5 _ rfl).at
  go_wp2_with fail
  (with_reducible refine (H_qcp.out _ ?_ ?_ ?_).mono ?_)
  · exact H_l6.out.below (show Below w6.heap.size w6 _ from belt)
  · exact H_t6.out.below (show Below w6.heap.size w6 _ from belt)
  · exact H_m6.out.below (show Below w6.heap.size w6 _ from belt)
  rintro e w7 ⟨rfl, b7⟩
  have c7 : Below w6.heap.size w6 w7 := Below.trans belt (b7.mono omh)
  have s7 := c7.size
  have bb7 := H_bb6.out.trans (c7.mono H_bb6.out.size)
  have k7 := H_k6.out.below c7
  have j7 := H_j6.out.below c7
  have v7 := H_v6.out.below c7
  have l7 := H_l6.out.below c7
  have r7 := H_r6.out.below c7
  have y7 := H_y6.out.below c7
  have t7 := H_t6.out.below c7
  have m7 := H_m6.out.below c7
  have ⟨H_b7, H_c7, H_bb7, H_k7, H_j7, H_v7, H_l7, H_r7⟩ := hid8 b7 c7 bb7 k7 j7 v7 l7 r7; clear b7 c7 bb7 k7 j7 v7 l7 r7; have ⟨H_y7, H_t7, H_m7⟩ := hid3 y7 t7 m7; clear y7 t7 m7
  clear u0 u1 u2 u3 u4 u5
  have u0 := (H_k7.out 0 _ rfl).at
  have u1 := (H_k7.out 1 _ rfl).at
  have u2 := (H_k7.out 2 _ rfl).at
  have u3 := (H_k7.out 3 _ rfl).at
  have u4 := (H_k7.out 4 _ rfl).at
  have u5 := (H_k7.out 5 _ rfl).at
  go_wp2_with fail
  (with_reducible refine (H_qcr.out _ ?_).mono ?_)
  · exact H_l7.out.below (show Below w7.heap.size w7 _ from belt)
  rintro e w8 ⟨rfl, b8⟩
  have c8 : Below w7.heap.size w7 w8 := Below.trans belt (b8.mono omh)
  have s8 := c8.size
  have bb8 := H_bb7.out.trans (c8.mono H_bb7.out.size)
  have k8 := H_k7.out.below c8
  have j8 := H_j7.out.below c8
  have v8 := H_v7.out.below c8
  have l8 := H_l7.out.below c8
  have r8 := H_r7.out.below c8
  have y8 := H_y7.out.below c8
  have t8 := H_t7.out.below c8
  have m8 := H_m7.out.below c8
  have ⟨H_b8, H_c8, H_bb8, H_k8, H_j8, H_v8, H_l8, H_r8⟩ := hid8 b8 c8 bb8 k8 j8 v8 l8 r8; clear b8 c8 bb8 k8 j8 v8 l8 r8; have ⟨H_y8, H_t8, H_m8⟩ := hid3 y8 t8 m8; clear y8 t8 m8
  clear u0 u1 u2 u3 u4 u5
  have u0 := (H_k8.out 0 _ rfl).at
  have u1 := (H_k8.out 1 _ rfl).at
  have u2 := (H_k8.out 2 _ rfl).at
  have u3 := (H_k8.out 3 _ rfl).at
  have u4 := (H_k8.out 4 _ rfl).at
  have u5 := (H_k8.out 5 _ rfl).at
  have s0 := (H_j8.out 0 _ rfl).at
  have s1 := (H_j8.out 1 _ rfl).at
  have s2 := (H_j8.out 2 _ rfl).at
  have s3 := (H_j8.out 3 _ rfl).at
  have s4 := (H_j8.out 4 _ rfl).at
  have s5 := (H_j8.out 5 _ rfl).at
  have tCV : (CV == CV) = true := by simp
  have tKV : (KV == KV) = true := by simp
  go_wp2_with fail
  (with_reducible refine (H_qkp.out _ ?_ ?_ ?_ ?_).mono ?_)
  · exact H_l8.out.below (show Below w8.heap.size w8 _ from belt)
  · exact H_r8.out.below (show Below w8.heap.size w8 _ from belt)
  · exact H_t8.out.below (show Below w8.heap.size w8 _ from belt)
  · exact H_m8.out.below (show Below w8.heap.size w8 _ from belt)
  rintro e w9 ⟨rfl, b9⟩
  have c9 : Below w8.heap.size w8 w9 := Below.trans belt (b9.mono omh)
  have s9 := c9.size
  have bb9 := H_bb8.out.trans (c9.mono H_bb8.out.size)
  have k9 := H_k8.out.below c9
  have j9 := H_j8.out.below c9
  have v9 := H_v8.out.below c9
  have l9 := H_l8.out.below c9
  have r9 := H_r8.out.below c9
  have y9 := H_y8.out.below c9
  have t9 := H_t8.out.below c9
  have m9 := H_m8.out.below c9
  have ⟨H_b9, H_c9, H_bb9, H_k9, H_j9, H_v9, H_l9, H_r9⟩ := hid8 b9 c9 bb9 k9 j9 v9 l9 r9; clear b9 c9 bb9 k9 j9 v9 l9 r9; have ⟨H_y9, H_t9, H_m9⟩ := hid3 y9 t9 m9; clear y9 t9 m9
  clear u0 u1 u2 u3 u4 u5
  clear s0 s1 s2 s3 s4 s5
  have u0 := (H_k9.out 0 _ rfl).at
  have u1 := (H_k9.out 1 _ rfl).at
  have u2 := (H_k9.out 2 _ rfl).at
  have u3 := (H_k9.out 3 _ rfl).at
  have u4 := (H_k9.out 4 _ rfl).at
  have u5 := (H_k9.out 5 _ rfl).at
  have s0 := (H_j9.out 0 _ rfl).at
  have s1 := (H_j9.out 1 _ rfl).at
  have s2 := (H_j9.out 2 _ rfl).at
  have s3 := (H_j9.out 3 _ rfl).at
  have s4 := (H_j9.out 4 _ rfl).at
  have s5 := (H_j9.out 5 _ rfl).at
  go_wp2_with fail
  (with_reducible refine (H_qkr.out _ ?_ ?_).mono ?_)
  · exact H_l9.out.below (show Below w9.heap.size w9 _ from belt)
  · exact H_r9.out.below (show Below w9.heap.size w9 _ from belt)
  rintro e w10 ⟨rfl, b10⟩
  have c10 : Below w9.heap.size w9 w10 := Below.trans belt (b10.mono omh)
  have s10 := c10.size
  have bb10 := H_bb9.out.trans (c10.mono H_bb9.out.size)
  have v10 := H_v9.out.below c10
  have y10 := H_y9.out.below c10
  have t10 := H_t9.out.below c10
  have m10 := H_m9.out.below c10
  have ⟨H_b10, H_c10, H_bb10, H_v10, H_y10, H_t10, H_m10⟩ := hid7 b10 c10 bb10 v10 y10 t10 m10; clear b10 c10 bb10 v10 y10 t10 m10
  clear u0 u1 u2 u3 u4 u5
  clear s0 s1 s2 s3 s4 s5
  have u0 := (H_v10.out 0 _ rfl).at
  have u1 := (H_v10.out 1 _ rfl).at
  have u2 := (H_v10.out 2 _ rfl).at
  have u3 := (H_v10.out 3 _ rfl).at
  have u4 := (H_v10.out 4 _ rfl).at
  go_wp2_with fail
  (with_reducible refine (H_qgp.out _ ?_ ?_).mono ?_)
  · exact H_y10.out.below (show Below w10.heap.size w10 _ from belt)
  · exact H_m10.out.below (show Below w10.heap.size w10 _ from belt)
  rintro e w11 ⟨A2, c2x, rfl, oo2, b11⟩
  have c11 : Below w10.heap.size w10 w11 := Below.trans belt (b11.mono omh)
  have s11 := c11.size
  have bb11 := H_bb10.out.trans (c11.mono H_bb10.out.size)
  have v11 := H_v10.out.below c11
  have y11 := H_y10.out.below c11
  have ⟨H_b11, H_c11, H_bb11, H_v11, H_y11⟩ := hid5 b11 c11 bb11 v11 y11; clear b11 c11 bb11 v11 y11
  have i11 := oo2.ints
  clear u0 u1 u2 u3 u4
  have ⟨H_oo2, H_i11⟩ := hid2 oo2 i11; clear oo2 i11
  have u0 := (H_v11.out 0 _ rfl).at
  have u1 := (H_v11.out 1 _ rfl).at
  have u2 := (H_v11.out 2 _ rfl).at
  have u3 := (H_v11.out 3 _ rfl).at
  have u4 := (H_v11.out 4 _ rfl).at
  go_wp2_with fail
  (with_reducible refine (H_qgr.out _ ?_).mono ?_)
  · exact H_y11.out.below (show Below w11.heap.size w11 _ from belt)
  rintro e w12 ⟨A3, c3x, rfl, oo3, b12⟩
  have c12 : Below w11.heap.size w11 w12 := Below.trans belt (b12.mono omh)
  have s12 := c12.size
  have bb12 := H_bb11.out.trans (c12.mono H_bb11.out.size)
  have i12 := H_i11.out.below c12
  have ⟨H_b12, H_c12, H_bb12, H_i12⟩ := hid4 b12 c12 bb12 i12; clear b12 c12 bb12 i12
  have j12 := oo3.ints
  clear u0 u1 u2 u3 u4
  have ⟨H_oo3, H_j12⟩ := hid2 oo3 j12; clear oo3 j12
  have q13 : ∀ W, IntsAt W A2 .i64 GL → IntsAt W A3 .i64 GL → Calls Tryd.prog 17 #[.slice A2 GN c2x, .slice A3 GN c3x] W fun e w' => e = .returned (.bool true) ∧ Below W.heap.size W w' := fun W h1 h2 => by
    have := jsameInts_any A2 A3 c2x c3x GL GL W h1 h2 (by rw [H_hGN.out]; omega) (by rw [H_hGN.out]; omega)
    rw [H_hGN.out, sameB_iff.2 rfl] at this
    refine this.mono ?_
    rintro e w' ⟨h3, q, rfl⟩
    exact ⟨h3, below_drewN (Below.refl _ _) q⟩
  have H_q13 := Lib.hid q13; clear q13
  go_wp2_with fail
  (with_reducible refine (H_q13.out _ ?_ ?_).mono ?_)
  · exact H_i12.out.below (show Below w12.heap.size w12 _ from belt)
  · exact H_j12.out.below (show Below w12.heap.size w12 _ from belt)
  rintro e w13 ⟨rfl, b13⟩
  have c13 : Below w12.heap.size w12 w13 := Below.trans belt (b13.mono omh)
  have s13 := c13.size
  have bb13 := H_bb12.out.trans (c13.mono H_bb12.out.size)
  have ⟨H_b13, H_c13, H_bb13⟩ := hid3 b13 c13 bb13; clear b13 c13 bb13
  go_wp2_with fail
  go_ret
  exact ⟨by first | rfl | (exact ret_bool (by simp)), H_bb13.out⟩
end Go.Proofs.YtmbmejclnagffaaDoor
