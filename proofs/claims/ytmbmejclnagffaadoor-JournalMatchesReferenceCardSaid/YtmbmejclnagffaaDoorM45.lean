/- SameMessages; usable. -/
import Derived.Test.YtmbmejclnagffaaDoorM44
set_option linter.unusedSimpArgs false
set_option linter.unusedVariables false
set_option maxRecDepth 100000
namespace Go.Proofs.YtmbmejclnagffaaDoor
open Go.RowKit
theorem map_at {l : List Msg} {j : Nat} {x : Msg} (h : l[j]? = some x) : (l.map msI)[j]? = some (msI x) := by rw [List.getElem?_map, h]; rfl
set_option maxRecDepth 100000 in
set_option maxHeartbeats 8000000 in
theorem rsameMs_any (A : Option Addr) (c n : Nat) (l : List Msg) (B : Option Addr) (d k : Nat) (m : List Msg) (hln : l.length = n) (hmk : m.length = k) (hn : n ≤ 1000000) (hk : k ≤ 1000000) (w : World) (hl : Msgs w A l) (hm : Msgs w B m)
    (hla : ∀ x ∈ l, x.a.length ≤ 1000000) (hma : ∀ x ∈ m, x.a.length ≤ 1000000) :
    Calls Tryd.prog 13 #[.slice A n c, .slice B k d] w fun e w' => e = .returned (.bool (decide (l.map msI = m.map msI))) ∧ Below w.heap.size w w' := by
  by_cases hne : n = k
  · subst hne
    have hd : ((n : Int) != (n : Int)) = false := by simp
    have bb : Below w.heap.size w w := Below.refl _ _
    have ⟨H_hl, H_hm, H_hln, H_hmk, H_hla, H_hma, H_bb⟩ := hid7 hl hm hln hmk hla hma bb; clear hl hm hln hmk hla hma bb
    go_enter Tryd.func13, Tryd.ntmps13
    go_upto_region 4 with (fail)
    go_loopw [5] (fun i wr => ∃ j : Nat, j ≤ n ∧ i = .int .i64 j ∧ (∀ i, i < j → (l.map msI)[i]? = (m.map msI)[i]?) ∧ Below w.heap.size w wr) (fun i _ => n - (intOf i).toNat)
    case atStart => exact ⟨0, by omega, rfl, fun j hj => absurd hj (by omega), H_bb.out⟩
    case round =>
      obtain ⟨j, hj, rfl, hall, bz⟩ := hrel
      by_cases hlt : j < n
      · have i1 : (0 : Int) ≤ (j : Int) := by omega
        have i2 : (j : Int) < (n : Int) := by omega
        obtain ⟨x, hx⟩ : ∃ x, l[j]? = some x := ⟨_, List.getElem?_eq_getElem (by rw [H_hln.out]; exact hlt)⟩
        obtain ⟨y, hy⟩ : ∃ y, m[j]? = some y := ⟨_, List.getElem?_eq_getElem (by rw [H_hmk.out]; exact hlt)⟩
        obtain ⟨b, off, hA, hbl, ⟨_, _, xi⟩, u0, u1, u2, u3, u4⟩ := (H_hl.out.below bz).at hx
        obtain ⟨b2, off2, hB, hbl2, ⟨_, _, yi⟩, v0, v1, v2, v3, v4⟩ := (H_hm.out.below bz).at hy
        subst hA hB
        have q := fun W h1 h2 => rsameM_any x y (H_hla.out x (List.mem_of_getElem? hx)) (H_hma.out y (List.mem_of_getElem? hy)) W h1 h2
        have ex : x.cells.toArray = #[.int .i64 x.p, .int .i64 x.s, .int .i64 x.t, .int .i64 x.k, .slice x.A x.a.length x.c] := rfl
        have ey : y.cells.toArray = #[.int .i64 y.p, .int .i64 y.s, .int .i64 y.t, .int .i64 y.k, .slice y.A y.a.length y.c] := rfl
        rw [ex, ey] at q
        clear ex ey
        have hR := @sameM_iff x y
        have hx2 := map_at hx
        have hy2 := map_at hy
        have hnext : sameM x y = true → ∀ i, i < j + 1 → (l.map msI)[i]? = (m.map msI)[i]? := fun he i hi => by
          rcases Nat.lt_or_ge i j with h | h
          · exact hall i h
          · rw [show i = j by omega, hx2, hy2, hR.1 he]
        have hno : sameM x y = false → decide (l.map msI = m.map msI) = false := fun he => by
          refine decide_eq_false (fun h => ?_)
          rw [h, hy2] at hx2
          rw [hR.2 (Option.some.inj hx2).symm] at he; cases he
        generalize sameM x y = R at *
        generalize x.a.length = xn at *
        generalize y.a.length = yn at *
        generalize x.p = xp at *
        generalize x.s = xs at *
        generalize x.t = xt at *
        generalize x.k = xk at *
        generalize y.p = yp at *
        generalize y.s = ys at *
        generalize y.t = yt at *
        generalize y.k = yk at *
        have ⟨H_hall, H_bz, H_xi, H_yi, H_q, H_hR, H_hx2, H_hy2⟩ := hid8 hall bz xi yi q hR hx2 hy2; clear hall bz xi yi q hR hx2 hy2; have ⟨H_hnext, H_hno, H_hx, H_hy⟩ := hid4 hnext hno hx hy; clear hnext hno hx hy
        go_upto_region 6 with (fail)
        refine wp_region_held_drew (S := (fun W => (∀ b o, b < wr.heap.size → W.cell? ⟨b, o, none⟩ = wr.cell? ⟨b, o, none⟩) ∧ Below wr.heap.size wr W)) (by kernel_rfl) ?_ (fun hHeld => ?_)
        · (try dsimp only); (first | (refine ext_mk ?_; exact belt))
        refine take_at (i := 0) (some 17) rfl rfl (by kernel_rfl) (fun _ _ _ h => h) (by rfl) (v := ?_) ?_ (by assumption) ?_
        rotate_left
        · intro W hSw; (try dsimp only at hSw); go_simp; (try with_reducible rfl)
        (try simp only [apz])
        refine take_at (i := 1) (some 18) rfl rfl (by kernel_rfl) (fun _ _ _ h => h) (by rfl) (v := ?_) ?_ (by assumption) ?_
        rotate_left
        · intro W hSw; (try dsimp only at hSw); go_simp; (try with_reducible rfl)
        (try simp only [apz])
        refine take_at (i := 4) (some 21) rfl rfl (by kernel_rfl) (fun _ _ _ h => h) (by rfl) (v := ?_) ?_ (by assumption) ?_
        rotate_left
        · intro W hSw; (try dsimp only at hSw); go_simp; (try with_reducible rfl)
        (try simp only [apz])
        refine take_at (i := 5) (some 22) rfl rfl (by kernel_rfl) (fun _ _ _ h => h) (by rfl) (v := ?_) ?_ (by assumption) ?_
        rotate_left
        · intro W hSw; (try dsimp only at hSw); go_simp; (try with_reducible rfl)
        (try simp only [apz])
        refine take_at (i := 2) (some 19) rfl rfl (by kernel_rfl) (fun _ _ _ h => h) (by rfl) (v := ?_) ?_ (by assumption) ?_
        rotate_left
        · intro W hSw; (try dsimp only at hSw); go_simp; (try with_reducible rfl)
        (try simp only [apz])
        refine take_at (i := 6) (some 23) rfl rfl (by kernel_rfl) (fun _ _ _ h => h) (by rfl) (v := ?_) ?_ (by assumption) ?_
        rotate_left
        · intro W hSw; (try dsimp only at hSw); go_simp; (try with_reducible rfl)
        (try simp only [apz])
        refine take_at (i := 3) (some 20) rfl rfl (by kernel_rfl) (fun _ _ _ h => h) (by rfl) (v := ?_) ?_ (by assumption) ?_
        rotate_left
        · intro W hSw; (try dsimp only at hSw); go_simp; (try with_reducible rfl)
        (try simp only [apz])
        refine take_at (i := 7) (some 24) rfl rfl (by kernel_rfl) (fun _ _ _ h => h) (by rfl) (v := ?_) ?_ (by assumption) ?_
        rotate_left
        · intro W hSw; (try dsimp only at hSw); go_simp; (try with_reducible rfl)
        (try simp only [apz])
        refine wpAnyH_ready (rs := [8]) (by kernel_rfl) (by simp) ?_
        refine AllReadyH.cons rfl (fun K hK => ?_) AllReadyH.nil
        go_simp
        (go_at_call 18; (with_reducible refine (H_q.out _ ?_ ?_).mono ?_); (focus (exact H_xi.out.below (And.right (by assumption : _ ∧ Below wr.heap.size wr _)))); (focus (exact H_yi.out.below (And.right (by assumption : _ ∧ Below wr.heap.size wr _)))); rintro e w5 ⟨rfl, hbw5⟩; have gw5 := Below.trans (And.right (by assumption : _ ∧ Below wr.heap.size wr _)) (hbw5.mono (Below.size (And.right (by assumption : _ ∧ Below wr.heap.size wr _)))); have gsw5 := gw5.size; have hcf := bcell hbw5; have hcw5 := hcf.1; have hfw5 := hcf.2; have hsw5 := hbw5.size; (try simp only [World.size_alloc, World.heap_drewN, heap_drew] at hsw5); clear hbw5 hcf; (try have hzw5 : wr.heap.size < w5.heap.size := by omega))
        refine hK.out _ _ ?_ (fun hHeld => ?_)
        · (try dsimp only); (first | (refine ext_mk ?_; exact belt))
        clear hK K
        (try simp only [apz])
        refine take_at (i := 9) (some 26) rfl rfl (by kernel_rfl) (fun _ _ _ h => h) (by rfl) (v := ?_) ?_ (by assumption) ?_
        rotate_left
        · intro W hSw; (try dsimp only at hSw); go_simp; (try with_reducible rfl)
        (try simp only [apz])
        refine wpAnyH_done (by kernel_rfl) ?_ _
        have gF : Below wr.heap.size wr _ := And.right (by assumption)
        have gG := H_bz.out.trans (gF.mono H_bz.out.size)
        cases R with
        | true =>
          have hn2 := H_hnext.out rfl
          have ⟨H_gF, H_gG, H_hn2⟩ := hid3 gF gG hn2; clear gF gG hn2
          go_wp2_with fail
          go_roundw
          case rel => exact ⟨j + 1, by omega, by go_num, H_hn2.out, H_gG.out⟩
          case measure => simp [intOf]; omega
        | false =>
          have hn2 := H_hno.out rfl
          have ⟨H_gF, H_gG, H_hn2⟩ := hid3 gF gG hn2; clear gF gG hn2
          go_wp2_with fail
          go_ret
          exact ⟨ret_bool H_hn2.out.symm, H_gG.out⟩
      · have i2 : ¬ (j : Int) < (n : Int) := by omega
        have hfin : decide (l.map msI = m.map msI) = true := decide_eq_true (by
          apply List.ext_getElem?
          intro i
          rcases Nat.lt_or_ge i j with h | h
          · exact hall i h
          · rw [List.getElem?_eq_none (by rw [List.length_map, H_hln.out]; omega), List.getElem?_eq_none (by rw [List.length_map, H_hmk.out]; omega)])
        have ⟨H_hall, H_hfin, H_bz⟩ := hid3 hall hfin bz; clear hall hfin bz
        go_wp2_with fail
        go_ret
        exact ⟨ret_bool H_hfin.out.symm, H_bz.out⟩
  · have hd : ((n : Int) != (k : Int)) = true := by simp; omega
    have hz : decide (l.map msI = m.map msI) = false := decide_eq_false (fun h => hne (by have := congrArg List.length h; rw [List.length_map, List.length_map, hln, hmk] at this; exact this))
    have ⟨H_hl, H_hm, H_hne, H_hz⟩ := hid4 hl hm hne hz; clear hl hm hne hz
    go_enter Tryd.func13, Tryd.ntmps13
    go_wp2_with fail
    go_ret
    exact ⟨ret_bool H_hz.out.symm, Below.refl _ _⟩
def useB (party sec : Int) (s : Nat) : Bool := ptyB party && wthB sec 1 && decide (s ≤ 20)
theorem sum_take {ns : List Nat} {k : Nat} (hk : k < ns.length) : (ns.take (k + 1)).sum = (ns.take k).sum + ns.getD k 0 := by
  rw [List.take_add_one, List.getElem?_eq_getElem hk, List.sum_append, List.getD_eq_getElem?_getD, List.getElem?_eq_getElem hk]
  simp
theorem sum_take_le (ns : List Nat) (k : Nat) : (ns.take k).sum ≤ ns.sum := by
  conv => rhs; rw [← List.take_append_drop k ns, List.sum_append]
  omega
set_option maxRecDepth 100000 in
set_option maxHeartbeats 8000000 in
theorem usable_any (party sec : Int) (b m c : Nat) (ns : List Nat) (hm : ns.length = m) (hm9 : m ≤ 1000) (hs : ns.sum ≤ 9223372036854775807) (w : World) (hc : ∀ i, i < m → ∃ Ai ci, w.cell? ⟨b, i, none⟩ = some (.slice Ai (ns.getD i 0) ci)) :
    Calls Tryd.prog 10 #[.int .i64 party, .int .i64 sec, .slice (some ⟨b, 0, none⟩) m c] w fun e w' => e = .returned (.bool (useB party sec ns.sum)) ∧ w = w' := by
  have q1 := fun W => rParty_any party W
  have q2 := fun W => rSecret_any sec W
  obtain ⟨S, hS⟩ : ∃ S, ns.sum = S := ⟨_, rfl⟩
  have hu : useB party sec S = (ptyB party && wthB sec 1 && decide (S ≤ 20)) := rfl
  rw [hS, hu]
  rw [hS] at hs
  clear hu
  generalize ptyB party = P1 at *
  generalize wthB sec 1 = P2 at *
  have fin : decide (S ≤ 20) = decide ((S : Int) ≤ 20) := by rw [Bool.eq_iff_iff, decide_eq_true_eq, decide_eq_true_eq]; omega
  rw [fin]
  have ⟨H_q1, H_q2, H_hc, H_hm, H_hS, H_fin⟩ := hid6 q1 q2 hc hm hS fin; clear q1 q2 hc hm hS fin
  go_enter Tryd.func10, Tryd.ntmps10
  go_upto_region 3 with (fail)
  go_loopw [7, 12] (fun s i wr => ∃ k : Nat, k ≤ m ∧ i = .int .i64 k ∧ s = .int .i64 ((ns.take k).sum : Nat) ∧ w = wr) (fun _ i _ => m - (intOf i).toNat)
  case atStart => exact ⟨0, by omega, rfl, rfl, rfl⟩
  case round =>
    obtain ⟨k, hk, rfl, rfl, hw_⟩ := hrel
    subst hw_
    by_cases hlt : k < m
    · have i1 : (0 : Int) ≤ (k : Int) := by omega
      have i2 : (k : Int) < (m : Int) := by omega
      obtain ⟨Ai, ci, hcx⟩ := H_hc.out k hlt
      have e := sum_take (ns := ns) (k := k) (by rw [H_hm.out]; exact hlt)
      have le := sum_take_le ns (k + 1)
      rw [H_hS.out] at le
      rw [e] at le
      obtain ⟨T, hT⟩ : ∃ T, (ns.take k).sum = T := ⟨_, rfl⟩
      rw [hT] at e le ⊢
      generalize ns.getD k 0 = V at *
      have wk : IntKind.i64.wrap ((T : Int) + (V : Int)) = (T : Int) + (V : Int) := IntWalk.i64_in _ (by omega)
      have ⟨H_e, H_hT⟩ := hid2 e hT; clear e hT
      go_wp2_with fail
      go_roundw
      case rel => exact ⟨k + 1, by omega, by go_num, by rw [H_e.out]; simp, by first | trivial | rfl⟩
      case measure => simp [intOf]; omega
    · have i2 : ¬ (k : Int) < (m : Int) := by omega
      rw [List.take_of_length_le (by rw [H_hm.out]; omega), H_hS.out]
      obtain ⟨L, hL⟩ : ∃ L, decide ((S : Int) ≤ 20) = L := ⟨_, rfl⟩
      cases P1 with
      | false =>
        have H_hL := Lib.hid hL; clear hL
        go_wp2_with fail
        (with_reducible refine (H_q1.out _).mono ?_)
        rintro e w_ ⟨rfl, hw_⟩
        subst hw_
        go_wp2_with fail
        go_ret
        exact ⟨rfl, rfl⟩
      | true =>
        cases P2 with
        | false =>
          have H_hL := Lib.hid hL; clear hL
          go_wp2_with fail
          (with_reducible refine (H_q1.out _).mono ?_)
          rintro e w_ ⟨rfl, hw_⟩
          subst hw_
          go_wp2_with fail
          (with_reducible refine (H_q2.out _).mono ?_)
          rintro e w_ ⟨rfl, hw_⟩
          subst hw_
          go_wp2_with fail
          go_ret
          exact ⟨rfl, rfl⟩
        | true =>
          go_wp2_with fail
          (with_reducible refine (H_q1.out _).mono ?_)
          rintro e w_ ⟨rfl, hw_⟩
          subst hw_
          go_wp2_with fail
          (with_reducible refine (H_q2.out _).mono ?_)
          rintro e w_ ⟨rfl, hw_⟩
          subst hw_
          go_wp2_with fail
          go_ret
          exact ⟨ret_bool (by simp [hL]), rfl⟩
end Go.Proofs.YtmbmejclnagffaaDoor
