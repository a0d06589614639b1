/- Contracts: slices.Equal, slices.EqualFunc over messages, journal.Forks. -/
import Derived.Test.YtmbmejclnagffaaDoorChecked
import Derived.WalkKit
import Derived.WalkSpells
import Derived.WalkLawsBesides
import Derived.Deep.QuietTactic
import Derived.BigQuiet
import Derived.BigGuardPart
import Derived.Lib.Hide
import Derived.Below
import Derived.IntWalk
import Derived.Laws.Rows
import Derived.OneCell
import Derived.Outline
import Derived.Deep.RegionHeld3
import Derived.Deep.RegionWith
import Derived.Maps.AppendAt
import Derived.Deep.AppendLies
import Derived.Laws.OwnMore
import Derived.OwnWalk
import Derived.ProofKit
import Derived.OpenShut
import Derived.ChangeOld
import Derived.Deep.Matrix
import Derived.DataShut
import Derived.SizedLaws
import Derived.Deep.Slices
import Derived.Deep.CutRange
import Derived.Laws.BitsAllLaws
import Derived.Lib.ItoaNum
import Derived.Lib.ItoaLen
import Derived.Shelf.Strconv.Itoa0
import Derived.Shelf.Strconv.Itoa1
import Derived.Shelf.LaysM
import Derived.Shelf.Strconv.Itoa2
import Derived.Shelf.Strconv.Itoa3
import Derived.Ground.Names2Prog
import Derived.Shelf.Slices.Clone
import Derived.Test.YtmbmejclnagffaaDoorProg
import Derived.Lib.AppendIntMem
import Derived.Lib.OthersKept
import Derived.RangeFuncNested
import Derived.RangeFuncBound
import Derived.RangeFuncCalls
import Derived.RangeFuncLeaves
import Derived.Shelf.Abstract
import Derived.Shelf.RegionOpen
import Derived.OwnWalkIn
import Derived.TacticsInMore
import Derived.LoopNIn
import Derived.LoopIn
import Derived.BigGuardPartIn
import Derived.DeepKeys
import Derived.Deep.Cut
import Derived.Lib.AppendStr
import Derived.Laws.BytesArg
import Derived.Lib.Strings
import Derived.Lib.SlBytesConst
import Derived.Lib.SmallJoins
import Derived.Test.YtmbmejclnagffaaDoorM1
import Derived.Test.YtmbmejclnagffaaDoorM2
import Derived.Test.YtmbmejclnagffaaDoorM3
import Derived.Test.YtmbmejclnagffaaDoorM4
import Derived.Test.YtmbmejclnagffaaDoorM5
import Derived.Test.YtmbmejclnagffaaDoorM6
import Derived.Test.YtmbmejclnagffaaDoorM7
import Derived.Test.YtmbmejclnagffaaDoorM8
import Derived.Test.YtmbmejclnagffaaDoorM9
import Derived.Test.YtmbmejclnagffaaDoorM10
import Derived.Test.YtmbmejclnagffaaDoorM11
import Derived.Test.YtmbmejclnagffaaDoorM12
import Derived.Test.YtmbmejclnagffaaDoorM13
import Derived.Test.YtmbmejclnagffaaDoorM14
import Derived.Test.YtmbmejclnagffaaDoorM15
import Derived.Test.YtmbmejclnagffaaDoorM16
import Derived.Test.YtmbmejclnagffaaDoorM17
import Derived.Test.YtmbmejclnagffaaDoorM18
import Derived.Test.YtmbmejclnagffaaDoorM19
import Derived.Test.YtmbmejclnagffaaDoorM20
import Derived.Test.YtmbmejclnagffaaDoorM21
import Derived.Test.YtmbmejclnagffaaDoorM22
import Derived.Test.YtmbmejclnagffaaDoorM23
import Derived.Test.YtmbmejclnagffaaDoorM24
import Derived.Test.YtmbmejclnagffaaDoorM25
import Derived.Test.YtmbmejclnagffaaDoorM26
import Derived.Test.YtmbmejclnagffaaDoorM27
import Derived.Test.YtmbmejclnagffaaDoorM28
import Derived.Test.YtmbmejclnagffaaDoorM29
import Derived.Test.YtmbmejclnagffaaDoorM30
import Derived.Test.YtmbmejclnagffaaDoorM31
import Derived.Test.YtmbmejclnagffaaDoorM32
import Derived.Test.YtmbmejclnagffaaDoorM33
import Derived.Test.YtmbmejclnagffaaDoorM34
import Derived.Test.YtmbmejclnagffaaDoorM35
import Derived.Test.YtmbmejclnagffaaDoorM36
import Derived.Test.YtmbmejclnagffaaDoorM37
import Derived.Test.YtmbmejclnagffaaDoorM38
import Derived.Test.YtmbmejclnagffaaDoorM39
import Derived.Test.YtmbmejclnagffaaDoorM40
import Derived.Test.YtmbmejclnagffaaDoorM41
import Derived.Test.YtmbmejclnagffaaDoorM42
import Derived.Test.YtmbmejclnagffaaDoorM43
import Derived.Test.YtmbmejclnagffaaDoorM44
import Derived.Test.YtmbmejclnagffaaDoorM45
import Derived.Test.YtmbmejclnagffaaDoorM46
import Derived.Test.YtmbmejclnagffaaDoorM47
import Derived.Test.YtmbmejclnagffaaDoorM48
import Derived.Test.YtmbmejclnagffaaDoorB1
set_option linter.unusedSimpArgs false
set_option linter.unusedVariables false
set_option maxRecDepth 100000
namespace Go.Proofs.YtmbmejclnagffaaDoor
open Go.RowKit
set_option maxHeartbeats 1000000 in
theorem slEqual_any (A B : Option Addr) (c d n k : Nat) (l m : List Int) (hln : l.length = n) (hmk : m.length = k) (hn : n ≤ 1000000) (hk : k ≤ 1000000) (w : World) (hl : IntsAt w A .i64 l) (hm : IntsAt w B .i64 m) :
    Calls Tryd.prog 53 #[.slice A n c, .slice B k d] w fun e w' => e = .returned (.bool (sameB l m)) ∧ Below w.heap.size w w' := by
  subst hln hmk
  have bb0 := Below.refl w.heap.size w
  by_cases hne : l.length = m.length
  · have hd : ((l.length : Int) != (m.length : Int)) = false := by simp [hne]
    generalize hN : l.length = N at *
    generalize hM : m.length = M at *
    have hs := @list_eq_of l m (by omega)
    have ⟨H_hl, H_hm, H_hN, H_hM, H_hne, H_hs, H_bb0⟩ := hid7 hl hm hN hM hne hs bb0; clear hl hm hN hM hne hs bb0
    go_enter Tryd.func53, Tryd.ntmps53
    go_wp2
    go_loopw [13] (fun i wr => ∃ k : Nat, k ≤ N ∧ i = .int .i64 k ∧ (∀ j, j < k → l.getD j 0 = m.getD j 0) ∧ Below w.heap.size w wr) (fun i _ => N - (intOf i).toNat)
    case atStart => exact ⟨0, by omega, rfl, fun j hj => absurd hj (by omega), H_bb0.out⟩
    case round =>
      obtain ⟨k, hk, rfl, hall, bz⟩ := hrel
      by_cases hlt : k < N
      · obtain ⟨b, off, hA, hbs, hc⟩ := (H_hl.out.below bz) k (by rw [H_hN.out]; exact hlt)
        obtain ⟨b2, off2, hA2, hbs2, hc2⟩ := (H_hm.out.below bz) k (by rw [H_hM.out]; have := H_hne.out; omega)
        have hltM : k < M := by have := H_hne.out; omega
        have i1 : (0 : Int) ≤ (k : Int) := by omega
        have i2 : (k : Int) < (N : Int) := by omega
        have i3 : (k : Int) < (M : Int) := by omega
        have hnx := @list_ne_at l m k
        subst hA hA2
        have hnext : l.getD k 0 = m.getD k 0 → ∀ j, j < k + 1 → l.getD j 0 = m.getD j 0 := fun he j hj => by
          rcases Nat.lt_or_ge j k with h | h
          · exact hall j h
          · rw [show j = k by omega]; exact he
        have bzd := fun q => below_drewN bz q
        generalize l.getD k 0 = x at *
        generalize m.getD k 0 = y at *
        by_cases hxy : x = y
        · have hb : (x != y) = false := by simp [hxy]
          have ⟨H_hall, H_hnext, H_hnx, H_hxy, H_bz, H_bzd⟩ := hid6 hall hnext hnx hxy bz bzd; clear hall hnext hnx hxy bz bzd
          go_wp2
          go_quiet (fail)
          go_wp2
          go_roundw
          case rel => exact ⟨k + 1, by omega, by go_num, H_hnext.out H_hxy.out, by first | exact H_bz.out | exact H_bzd.out _⟩
          case measure => simp [intOf]; omega
        · have hb : (x != y) = true := by simp [hxy]
          have ⟨H_hall, H_hnext, H_hnx, H_hxy, H_bz, H_bzd⟩ := hid6 hall hnext hnx hxy bz bzd; clear hall hnext hnx hxy bz bzd
          go_wp2
          go_quiet (fail)
          go_wp2
          go_ret
          exact ⟨ret_bool (H_hnx.out H_hxy.out).symm, by first | exact H_bz.out | exact H_bzd.out _⟩
      · have hfin : sameB l m = true := H_hs.out fun j hj => hall j (by rw [H_hN.out] at hj; omega)
        have ⟨H_hall, H_hfin, H_bz⟩ := hid3 hall hfin bz; clear hall hfin bz
        go_wp2
        go_ret
        exact ⟨ret_bool H_hfin.out.symm, H_bz.out⟩
  · have hd : ((l.length : Int) != (m.length : Int)) = true := by simp; omega
    have hz : sameB l m = false := by rw [Bool.eq_false_iff]; intro h; rw [sameB_iff] at h; exact hne (by rw [h])
    have ⟨H_hl, H_hm, H_hne, H_hz, H_bb0⟩ := hid5 hl hm hne hz bb0; clear hl hm hne hz bb0
    go_enter Tryd.func53, Tryd.ntmps53
    go_wp2
    go_ret
    exact ⟨ret_bool H_hz.out.symm, H_bb0.out⟩
set_option maxRecDepth 100000 in
set_option maxHeartbeats 8000000 in
theorem fk1_any (x y : Msg) (hx : x.a.length ≤ 100000) (hy : y.a.length ≤ 100000) (w : World) (hl : IntsAt w x.A .i64 x.a) (hm : IntsAt w y.A .i64 y.a) :
    Calls Tryd.prog 52 #[.agg x.cells.toArray, .agg y.cells.toArray] w fun e w' => e = .returned (.bool (sameB (msI x) (msI y))) ∧ Below w.heap.size w w' := by
  have q1 := fun W h1 => jints_any x hx W h1
  have q2 := fun W h1 => jints_any y hy W h1
  have lx : (msI x).length = 4 + x.a.length := by simp [msI]; omega
  have ly : (msI y).length = 4 + y.a.length := by simp [msI]; omega
  have q3 := fun W A B c d h1 h2 => slEqual_any A B c d _ _ _ _ lx ly (by omega) (by omega) W h1 h2
  obtain ⟨N, hN⟩ : ∃ N, x.a.length = N := ⟨_, rfl⟩
  obtain ⟨M, hM⟩ : ∃ M, y.a.length = M := ⟨_, rfl⟩
  have ex : x.cells.toArray = #[.int .i64 x.p, .int .i64 x.s, .int .i64 x.t, .int .i64 x.k, .slice x.A N x.c] := by rw [← hN]; rfl
  have ey : y.cells.toArray = #[.int .i64 y.p, .int .i64 y.s, .int .i64 y.t, .int .i64 y.k, .slice y.A M y.c] := by rw [← hM]; rfl
  rw [ex] at q1 ⊢
  rw [ey] at q2 ⊢
  rw [hN] at q1 q3
  rw [hM] at q2 q3
  obtain ⟨w0, hw0⟩ : ∃ W, (w.alloc (.cells #[.int .i64 x.p, .int .i64 x.s, .int .i64 x.t, .int .i64 x.k, .slice x.A N x.c] 47)).alloc (.cells #[.int .i64 y.p, .int .i64 y.s, .int .i64 y.t, .int .i64 y.k, .slice y.A M y.c] 47) = W := ⟨_, rfl⟩
  have bb0 : Below w.heap.size w w0 := by rw [← hw0]; exact ((Below.refl _ _).alloc (Nat.le_refl _) _).alloc (by simp) _
  have k0 : Blk w0 w.heap.size #[.int .i64 x.p, .int .i64 x.s, .int .i64 x.t, .int .i64 x.k, .slice x.A N x.c] := by rw [← hw0]; exact (blk_new rfl).alloc _
  have j0 : Blk w0 (w.heap.size + 1) #[.int .i64 y.p, .int .i64 y.s, .int .i64 y.t, .int .i64 y.k, .slice y.A M y.c] := by rw [← hw0]; exact blk_new (by simp)
  have l0 := hl.below bb0
  have m0 := hm.below bb0
  generalize sameB (msI x) (msI y) = R at *
  generalize msI x = IX at *
  generalize msI y = IY at *
  generalize x.p = xp at *
  generalize x.s = xs at *
  generalize x.t = xt at *
  generalize x.k = xk at *
  generalize x.A = xA at *
  generalize x.c = xc at *
  generalize x.a = xa at *
  generalize y.p = yp at *
  generalize y.s = ys at *
  generalize y.t = yt at *
  generalize y.k = yk at *
  generalize y.A = yA at *
  generalize y.c = yc at *
  generalize y.a = ya at *
  clear ex ey
  have ⟨H_q1, H_q2, H_q3, H_hw0, H_bb0, H_k0, H_j0, H_l0⟩ := hid8 q1 q2 q3 hw0 bb0 k0 j0 l0; clear q1 q2 q3 hw0 bb0 k0 j0 l0; have ⟨H_m0, H_hl, H_hm, H_lx, H_ly, H_hN, H_hM, H_hx⟩ := hid8 m0 hl hm lx ly hN hM hx; clear m0 hl hm lx ly hN hM hx; have H_hy := Lib.hid hy; clear hy
  go_enter Tryd.func52, Tryd.ntmps52
  go_upto_region 1 with (fail)
  rw [H_hw0.out]
  have u0 := (H_k0.out 0 _ rfl).at
  have u1 := (H_k0.out 1 _ rfl).at
  have u2 := (H_k0.out 2 _ rfl).at
  have u3 := (H_k0.out 3 _ rfl).at
  have u4 := (H_k0.out 4 _ rfl).at
  have v0 := (H_j0.out 0 _ rfl).at
  have v1 := (H_j0.out 1 _ rfl).at
  have v2 := (H_j0.out 2 _ rfl).at
  have v3 := (H_j0.out 3 _ rfl).at
  have v4 := (H_j0.out 4 _ rfl).at
  have zu := (H_k0.out 0 _ rfl).lt
  have zv := (H_j0.out 0 _ rfl).lt
  refine wp_region_held_drew (S := (fun W => (∀ b o, b < w0.heap.size → W.cell? ⟨b, o, none⟩ = w0.cell? ⟨b, o, none⟩) ∧ Below w0.heap.size w0 W)) (by kernel_rfl) ?_ (fun hHeld => ?_)
  · (try dsimp only); (first | (refine ext_mk ?_; exact belt))
  refine take_at (i := 0) (some 5) rfl rfl (by kernel_rfl) (fun _ _ _ h => h) (by rfl) (v := ?_) ?_ (by assumption) ?_
  rotate_left
  · intro W hSw; (try dsimp only at hSw); go_simp; (try with_reducible rfl)
  (try simp only [apz])
  refine take_at (i := 2) (some 7) rfl rfl (by kernel_rfl) (fun _ _ _ h => h) (by rfl) (v := ?_) ?_ (by assumption) ?_
  rotate_left
  · intro W hSw; (try dsimp only at hSw); go_simp; (try with_reducible rfl)
  (try simp only [apz])
  refine wpAnyH_ready (rs := [1]) (by kernel_rfl) (by simp) ?_
  refine AllReadyH.cons rfl (fun K hK => ?_) AllReadyH.nil
  go_simp
  (go_at_call 37; (with_reducible refine (H_q1.out _ ?_).mono ?_); (focus (exact H_l0.out.below (And.right (by assumption : _ ∧ Below w0.heap.size w0 _)))); rintro e w1 ⟨A1, c1, rfl, o1, hbw1⟩; have gw1 := Below.trans (And.right (by assumption : _ ∧ Below w0.heap.size w0 _)) (hbw1.mono (Below.size (And.right (by assumption : _ ∧ Below w0.heap.size w0 _)))); have gsw1 := gw1.size; have hcf := bcell hbw1; have hcw1 := hcf.1; have hfw1 := hcf.2; have hsw1 := hbw1.size; (try simp only [World.size_alloc, World.heap_drewN, heap_drew] at hsw1); have H_hbw1 := Lib.hid hbw1; clear hbw1 hcf; (try have hzw1 : w0.heap.size < w1.heap.size := by omega))
  refine hK.out _ _ ?_ (fun hHeld => ?_)
  · (try dsimp only); (first | (refine ext_mk ?_; exact belt))
  clear hK K
  (try simp only [apz])
  refine wpAnyH_ready (rs := [3]) (by kernel_rfl) (by simp) ?_
  refine AllReadyH.cons rfl (fun K hK => ?_) AllReadyH.nil
  go_simp
  (go_at_call 37; (with_reducible refine (H_q2.out _ ?_).mono ?_); (focus (exact H_m0.out.below (And.right (by assumption : _ ∧ Below w0.heap.size w0 _)))); rintro e w2 ⟨A2, c2, rfl, o2, hbw2⟩; have gw2 := Below.trans (And.right (by assumption : _ ∧ Below w0.heap.size w0 _)) (hbw2.mono (Below.size (And.right (by assumption : _ ∧ Below w0.heap.size w0 _)))); have gsw2 := gw2.size; have hcf := bcell hbw2; have hcw2 := hcf.1; have hfw2 := hcf.2; have hsw2 := hbw2.size; (try simp only [World.size_alloc, World.heap_drewN, heap_drew] at hsw2); have H_hbw2 := Lib.hid hbw2; clear hbw2 hcf; (try have hzw2 : w0.heap.size < w2.heap.size := by omega))
  refine hK.out _ _ ?_ (fun hHeld => ?_)
  · (try dsimp only); (first | (refine ext_mk ?_; exact belt))
  clear hK K
  (try simp only [apz])
  have i1 := (OwnInts.ints o1).below H_hbw2.out
  have i2 := (OwnInts.ints o2)
  have hw2s := H_hbw2.out.size
  have ⟨H_i1, H_i2, H_o1, H_o2⟩ := hid4 i1 i2 o1 o2; clear i1 i2 o1 o2
  refine wpAnyH_ready (rs := [4]) (by kernel_rfl) (by simp) ?_
  refine AllReadyH.cons rfl (fun K hK => ?_) AllReadyH.nil
  go_simp
  (go_at_call 53; (with_reducible refine (H_q3.out _ _ _ _ _ ?_ ?_).mono ?_); (focus (exact (H_i1.out.below belt))); (focus (exact (H_i2.out.below belt))); rintro e w3 ⟨rfl, hbw3⟩; have gw3 := Below.trans (And.right (by assumption : _ ∧ Below w0.heap.size w0 _)) (hbw3.mono (Below.size (And.right (by assumption : _ ∧ Below w0.heap.size w0 _)))); have gsw3 := gw3.size; have hcf := bcell hbw3; have hcw3 := hcf.1; have hfw3 := hcf.2; have hsw3 := hbw3.size; (try simp only [World.size_alloc, World.heap_drewN, heap_drew] at hsw3); clear hbw3 hcf; (try have hzw3 : w0.heap.size < w3.heap.size := by omega))
  refine hK.out _ _ ?_ (fun hHeld => ?_)
  · (try dsimp only); (first | (refine ext_mk ?_; exact belt))
  clear hK K
  (try simp only [apz])
  refine take_at (i := 5) (some 4) rfl rfl (by kernel_rfl) (fun _ _ _ h => h) (by rfl) (v := ?_) ?_ (by assumption) ?_
  rotate_left
  · intro W hSw; (try dsimp only at hSw); go_simp; (try with_reducible rfl)
  (try simp only [apz])
  refine wpAnyH_done (by kernel_rfl) ?_ _
  have gF : Below w0.heap.size w0 _ := And.right (by assumption)
  have gG := H_bb0.out.trans (gF.mono H_bb0.out.size)
  have ⟨H_gF, H_gG⟩ := hid2 gF gG; clear gF gG
  go_wp2_with fail
  go_ret
  exact ⟨rfl, H_gG.out⟩
theorem map_take_all {l m : List Msg} {j : Nat} (h : ∀ i, i < j → (l.map msI)[i]? = (m.map msI)[i]?) {x y : Msg} (hx : l[j]? = some x) (hy : m[j]? = some y) (e : sameB (msI x) (msI y) = true) : ∀ i, i < j + 1 → (l.map msI)[i]? = (m.map msI)[i]? := fun i hi => by
  rcases Nat.lt_or_ge i j with h1 | h1
  · exact h i h1
  · rw [show i = j by omega, map_at hx, map_at hy, sameB_iff.1 e]
set_option maxRecDepth 100000 in
set_option maxHeartbeats 8000000 in
theorem efn_any (A : Option Addr) (c n : Nat) (l : List Msg) (B : Option Addr) (d : Nat) (m : List Msg) (hln : l.length = n) (hmk : m.length = n) (hn : n ≤ 1000000) (hla : ∀ x ∈ l, x.a.length ≤ 100000) (hma : ∀ x ∈ m, x.a.length ≤ 100000) (w : World) (hl : Msgs w A l) (hm : Msgs w B m) :
    Calls Tryd.prog 51 #[.slice A n c, .slice B n d, .func (.func 52) #[] #[]] w fun e w' => e = .returned (.bool (decide (l.map msI = m.map msI))) ∧ Below w.heap.size w w' := by
  have hd : ((n : Int) != (n : Int)) = false := by simp
  have bb : Below w.heap.size w w := Below.refl _ _
  have ⟨H_hl, H_hm, H_hln, H_hmk, H_hla, H_hma, H_bb⟩ := hid7 hl hm hln hmk hla hma bb; clear hl hm hln hmk hla hma bb
  go_enter Tryd.func51, Tryd.ntmps51
  go_upto_region 4 with (fail)
  go_loopw [17] (fun i wr => ∃ j : Nat, j ≤ n ∧ i = .int .i64 j ∧ (∀ i, i < j → (l.map msI)[i]? = (m.map msI)[i]?) ∧ Below w.heap.size w wr) (fun i _ => n - (intOf i).toNat)
  case atStart => exact ⟨0, by omega, rfl, fun j hj => absurd hj (by omega), H_bb.out⟩
  case round =>
    obtain ⟨j, hj, rfl, hall, bz⟩ := hrel
    by_cases hlt : j < n
    · have i1 : (0 : Int) ≤ (j : Int) := by omega
      have i2 : (j : Int) < (n : Int) := by omega
      obtain ⟨x, hx⟩ : ∃ x, l[j]? = some x := ⟨_, List.getElem?_eq_getElem (by rw [H_hln.out]; exact hlt)⟩
      obtain ⟨y, hy⟩ : ∃ y, m[j]? = some y := ⟨_, List.getElem?_eq_getElem (by rw [H_hmk.out]; exact hlt)⟩
      obtain ⟨b, off, hA, hbl, ⟨_, _, xi⟩, u0, u1, u2, u3, u4⟩ := (H_hl.out.below bz).at hx
      obtain ⟨b2, off2, hB, hbl2, ⟨_, _, yi⟩, v0, v1, v2, v3, v4⟩ := (H_hm.out.below bz).at hy
      subst hA hB
      have q := fun W h1 h2 => fk1_any x y (H_hla.out x (List.mem_of_getElem? hx)) (H_hma.out y (List.mem_of_getElem? hy)) W h1 h2
      have ex : x.cells.toArray = #[.int .i64 x.p, .int .i64 x.s, .int .i64 x.t, .int .i64 x.k, .slice x.A x.a.length x.c] := rfl
      have ey : y.cells.toArray = #[.int .i64 y.p, .int .i64 y.s, .int .i64 y.t, .int .i64 y.k, .slice y.A y.a.length y.c] := rfl
      rw [ex, ey] at q
      clear ex ey
      have hnext := map_take_all hall hx hy
      have hno : sameB (msI x) (msI y) = false → decide (l.map msI = m.map msI) = false := fun he => by
        refine decide_eq_false (fun h => ?_)
        have hx2 := map_at hx
        rw [h, map_at hy] at hx2
        rw [sameB_iff.2 (Option.some.inj hx2).symm] at he; cases he
      generalize sameB (msI x) (msI y) = R at *
      generalize x.a.length = xn at *
      generalize y.a.length = yn at *
      generalize x.p = xp at *
      generalize x.s = xs at *
      generalize x.t = xt at *
      generalize x.k = xk at *
      generalize y.p = yp at *
      generalize y.s = ys at *
      generalize y.t = yt at *
      generalize y.k = yk at *
      have bb0 := bz
      have x0 := xi
      have y0 := yi
      obtain ⟨w0, hw0⟩ : ∃ W, wr = W := ⟨_, rfl⟩
      subst hw0
      have ⟨H_hall, H_bz, H_xi, H_yi, H_q, H_hnext, H_hno, H_hx⟩ := hid8 hall bz xi yi q hnext hno hx; clear hall bz xi yi q hnext hno hx; have ⟨H_hy, H_bb0, H_x0, H_y0⟩ := hid4 hy bb0 x0 y0; clear hy bb0 x0 y0
      go_upto_region 7 with (fail)
      obtain ⟨w2, hw2⟩ : ∃ W, (wr.alloc (.cells #[.int .i64 xp, .int .i64 xs, .int .i64 xt, .int .i64 xk, .slice x.A xn x.c] 47)).alloc (.cells #[.int .i64 yp, .int .i64 ys, .int .i64 yt, .int .i64 yk, .slice y.A yn y.c] 47) = W := ⟨_, rfl⟩
      rw [hw2]
      have d2 : Below wr.heap.size wr w2 := by rw [← hw2]; exact ((Below.refl _ _).alloc (Nat.le_refl _) _).alloc (by simp) _
      have k2 : Blk w2 wr.heap.size #[.int .i64 xp, .int .i64 xs, .int .i64 xt, .int .i64 xk, .slice x.A xn x.c] := by rw [← hw2]; exact (blk_new rfl).alloc _
      have j2 : Blk w2 (wr.heap.size + 1) #[.int .i64 yp, .int .i64 ys, .int .i64 yt, .int .i64 yk, .slice y.A yn y.c] := by rw [← hw2]; exact blk_new (by simp)
      have x2 := H_xi.out.below d2
      have y2 := H_yi.out.below d2
      have bb2 := H_bz.out.trans (d2.mono H_bz.out.size)
      clear u0 u1 u2 u3 u4 v0 v1 v2 v3 v4
      have ⟨H_hw2, H_d2, H_k2, H_j2, H_x2, H_y2, H_bb2⟩ := hid7 hw2 d2 k2 j2 x2 y2 bb2; clear hw2 d2 k2 j2 x2 y2 bb2
      have u0 := (H_k2.out 0 _ rfl).at
      have u1 := (H_k2.out 1 _ rfl).at
      have u2 := (H_k2.out 2 _ rfl).at
      have u3 := (H_k2.out 3 _ rfl).at
      have u4 := (H_k2.out 4 _ rfl).at
      have v0 := (H_j2.out 0 _ rfl).at
      have v1 := (H_j2.out 1 _ rfl).at
      have v2 := (H_j2.out 2 _ rfl).at
      have v3 := (H_j2.out 3 _ rfl).at
      have v4 := (H_j2.out 4 _ rfl).at
      go_wp2_with fail
      (with_reducible refine (H_q.out _ ?_ ?_).mono ?_)
      · exact H_x2.out.below (show Below w2.heap.size w2 _ from belt)
      · exact H_y2.out.below (show Below w2.heap.size w2 _ from belt)
      rintro e w3 ⟨rfl, b3⟩
      have c3 : Below w2.heap.size w2 w3 := Below.trans belt (b3.mono omh)
      have s3 := c3.size
      have bb3 := H_bb2.out.trans (c3.mono H_bb2.out.size)
      have ⟨H_b3, H_c3, H_bb3⟩ := hid3 b3 c3 bb3; clear b3 c3 bb3
      cases R with
      | true =>
        have hn2 := H_hnext.out rfl
        have H_hn2 := Lib.hid hn2; clear hn2
        go_wp2_with fail
        go_roundw
        case rel => exact ⟨j + 1, by omega, by go_num, H_hn2.out, H_bb3.out⟩
        case measure => simp [intOf]; omega
      | false =>
        have hn2 := H_hno.out rfl
        have H_hn2 := Lib.hid hn2; clear hn2
        go_wp2_with fail
        go_ret
        exact ⟨ret_bool H_hn2.out.symm, H_bb3.out⟩
    · have i2 : ¬ (j : Int) < (n : Int) := by omega
      have hfin : decide (l.map msI = m.map msI) = true := decide_eq_true (by
        apply List.ext_getElem?
        intro i
        rcases Nat.lt_or_ge i j with h | h
        · exact hall i h
        · rw [List.getElem?_eq_none (by rw [List.length_map, H_hln.out]; omega), List.getElem?_eq_none (by rw [List.length_map, H_hmk.out]; omega)])
      have ⟨H_hall, H_hfin, H_bz⟩ := hid3 hall hfin bz; clear hall hfin bz
      go_wp2_with fail
      go_ret
      exact ⟨ret_bool H_hfin.out.symm, H_bz.out⟩
end Go.Proofs.YtmbmejclnagffaaDoor
