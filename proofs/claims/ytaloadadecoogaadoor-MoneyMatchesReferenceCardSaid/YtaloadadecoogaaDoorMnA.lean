/- Contracts of packages money and ratio: the small ones, reduced, Valid. -/
import Derived.Test.YtaloadadecoogaaDoorMnW
import Derived.Test.YtaloadadecoogaaDoorBlk
import Derived.Test.YtaloadadecoogaaDoorMp
import Derived.Test.YtaloadadecoogaaDoorOrd
import Derived.Laws.EntriesVeiled
import Derived.Deep.CutRange
namespace Go.Proofs.YtaloadadecoogaaDoor
set_option linter.unusedSimpArgs false
set_option linter.unusedVariables false
set_option maxRecDepth 100000
open Go.RowKit Go.Maps

def inB (n lo hi : Int) : Bool := decide (lo ≤ n) && decide (n ≤ hi)
theorem mwithin_any (n lo hi : Int) (w : World) : Calls Tryd.prog 31 #[.int .i64 n, .int .i64 lo, .int .i64 hi] w fun e w' => e = .returned (.bool (inB n lo hi)) ∧ w = w' := by
  by_cases h1 : lo ≤ n
  · by_cases h2 : n ≤ hi
    · have e : inB n lo hi = true := by simp [inB, h1, h2]
      have H_e := Lib.hid e; clear e
      go_enter Tryd.func31, Tryd.ntmps31
      go_wp2
      go_ret
      exact ⟨ret_bool (by rw [H_e.out]), rfl⟩
    · have e : inB n lo hi = false := by simp [inB, h2]
      have h3 : decide (n ≤ hi) = false := by simpa using h2
      have H_e := Lib.hid e; clear e
      go_enter Tryd.func31, Tryd.ntmps31
      go_wp2
      go_ret
      exact ⟨ret_bool (by rw [H_e.out]), rfl⟩
  · have e : inB n lo hi = false := by simp [inB, h1]
    have h3 : decide (lo ≤ n) = false := by simpa using h1
    have H_e := Lib.hid e; clear e
    go_enter Tryd.func31, Tryd.ntmps31
    go_wp2
    go_ret
    exact ⟨ret_bool (by rw [H_e.out]), rfl⟩
theorem misAmount_any (n : Int) (w : World) : Calls Tryd.prog 25 #[.int .i64 n] w fun e w' => e = .returned (.bool (amtB n)) ∧ w = w' := by
  have q := mwithin_any n (-1000000000) 1000000000 w
  rw [show inB n (-1000000000) 1000000000 = amtB n from rfl] at q
  generalize amtB n = R at *
  have H_q := Lib.hid q; clear q
  go_enter Tryd.func25, Tryd.ntmps25
  go_wp2_with fail
  refine H_q.out.mono ?_
  rintro e w_ ⟨rfl, rfl⟩
  go_wp2_with fail
  go_ret
  exact ⟨rfl, rfl⟩
theorem misCurrency_any (n : Int) (w : World) : Calls Tryd.prog 26 #[.int .i64 n] w fun e w' => e = .returned (.bool (curB n)) ∧ w = w' := by
  have q := mwithin_any n 1 9 w
  rw [show inB n 1 9 = curB n from rfl] at q
  generalize curB n = R at *
  have H_q := Lib.hid q; clear q
  go_enter Tryd.func26, Tryd.ntmps26
  go_wp2_with fail
  refine H_q.out.mono ?_
  rintro e w_ ⟨rfl, rfl⟩
  go_wp2_with fail
  go_ret
  exact ⟨rfl, rfl⟩
theorem ret_i64 {a b : Int} (h : a = b) : Ending.returned (.int .i64 a) = .returned (.int .i64 b) := by rw [h]
theorem size_any (n : Int) (w : World) (h : -9223372036854775807 ≤ n ∧ n ≤ 9223372036854775807) : Calls Tryd.prog 40 #[.int .i64 n] w fun e w' => e = .returned (.int .i64 (n.natAbs : Int)) ∧ w = w' := by
  have k1 : IntKind.i64.wrap (-n) = -n := IntWalk.i64_in _ (by omega)
  have k2 : max n (-n) = (n.natAbs : Int) := by omega
  go_enter Tryd.func40, Tryd.ntmps40
  go_wp2_with fail
  all_goals
    go_ret
    exact ⟨ret_i64 (by omega), rfl⟩
/-- the function variable of reduced, in its block -/
def SelfAt (w : World) (g : Nat) : Prop := w.cell? ⟨g, 0, none⟩ = some (.func (.func 51) #[] #[.pointer (some ⟨g, 0, none⟩)]) ∧ g < w.heap.size
theorem SelfAt.below {w w' : World} {g : Nat} (h : SelfAt w g) (hb : Below w.heap.size w w') : SelfAt w' g := ⟨(hb.cell (p := ⟨g, 0, none⟩) h.2).trans h.1, Nat.lt_of_lt_of_le h.2 hb.size⟩
set_option maxHeartbeats 2000000 in
theorem common_any : ∀ (b a : Nat) (g : Nat) (w : World), (a ≤ 9223372036854775807 ∧ b ≤ 9223372036854775807) → SelfAt w g → Calls Tryd.prog 51 #[.int .i64 a, .int .i64 b, .pointer (some ⟨g, 0, none⟩)] w fun e w' => e = .returned (.int .i64 (Nat.gcd a b : Nat)) ∧ Below w.heap.size w w' := by
  intro b
  induction b using Nat.strongRecOn with
  | _ b ih =>
    intro a g w hab hg
    by_cases h0 : b = 0
    · subst h0
      have H_ih := Lib.hid ih; clear ih; have H_hab := Lib.hid hab; clear hab; have H_hg := Lib.hid hg; clear hg
      go_enter Tryd.func51, Tryd.ntmps51
      go_wp2_with fail
      go_ret
      exact ⟨by simp, Below.refl _ _⟩
    · have q := fun W (h : SelfAt W g) => ih (a % b) (Nat.mod_lt _ (by omega)) b g W ⟨by omega, by have := Nat.mod_lt a (show 0 < b by omega); omega⟩ h
      rw [← gcd_step] at q
      have hm2 : ((a % b : Nat) : Int) = (a : Int) % (b : Int) := by simp
      rw [hm2] at q
      have c1 := hg.1
      have l1 := hg.2
      have i1 : ((b : Int) == 0) = false := by rw [beq_eq_false_iff_ne]; omega
      have i2 : ¬ (b : Int) = 0 := by omega
      have hm : (a : Int).tmod (b : Int) = ((a % b : Nat) : Int) := by rw [Int.ofNat_tmod]
      have hw : IntKind.i64.wrap ((a % b : Nat) : Int) = ((a % b : Nat) : Int) := IntWalk.i64_in _ (by have := Nat.mod_lt a (show 0 < b by omega); omega)
      clear hm2
      have H_ih := Lib.hid ih; clear ih; have H_hab := Lib.hid hab; clear hab; have H_hg := Lib.hid hg; clear hg; have H_q := Lib.hid q; clear q
      go_enter Tryd.func51, Tryd.ntmps51
      go_wp2_with fail
      go_region_held3 (fun W => (∀ b o, b < w.heap.size → W.cell? ⟨b, o, none⟩ = w.cell? ⟨b, o, none⟩) ∧ Below w.heap.size w W) (first | (refine ext_mk ?_; (repeat (first | with_reducible exact Below.refl _ _ | with_reducible exact Nat.le_refl _ | with_reducible assumption | with_reducible refine Below.drew ?_ | with_reducible refine below_drewN ?_ _ | with_reducible refine Below.alloc ?_ ?_ _ | with_reducible refine Below.setCell ?_ ?_ _ | with_reducible exact And.right (by assumption) | with_reducible refine Below.trans ?_ (Below.mono (by assumption) ?_) | with_reducible exact Below.size (And.right (by assumption)) | (focus omega) | (focus (simp; done)) | (focus (simp; omega)) | (focus (simp at *; omega)))))) ((go_at_call 51; (with_reducible refine (H_q.out _ ?_).mono ?_); (focus (exact H_hg.out.below (And.right (by assumption : _ ∧ Below w.heap.size w _)))); rintro e w2 ⟨rfl, hbw2⟩; have gw2 := Below.trans (And.right (by assumption : _ ∧ Below w.heap.size w _)) (hbw2.mono (Below.size (And.right (by assumption : _ ∧ Below w.heap.size w _)))); have gsw2 := gw2.size; have hcf := bcell hbw2; have hcw2 := hcf.1; have hfw2 := hcf.2; have hsw2 := hbw2.size; (try simp only [World.size_alloc, World.heap_drewN, heap_drew] at hsw2); clear hbw2 hcf; (try have hzw2 : w.heap.size < w2.heap.size := by omega)))
      all_goals
        have gF : Below w.heap.size w _ := And.right (by assumption)
        go_wp2_with fail
        go_ret
        exact ⟨rfl, gF⟩
/-- a fraction of two numbers, divided by their greatest common divisor -/
theorem reduced_any (n d : Int) (hn : -1000000000 ≤ n ∧ n ≤ 1000000000) (hd : 1 ≤ d ∧ d ≤ 1000000) (w : World) :
    Calls Tryd.prog 45 #[.agg #[.int .i64 n, .int .i64 d]] w fun e w' => e = .returned (.agg #[.int .i64 (n.tdiv (Nat.gcd n.natAbs d.toNat : Nat)), .int .i64 (d.tdiv (Nat.gcd n.natAbs d.toNat : Nat))]) ∧ Below w.heap.size w w' := by
  have hg : 1 ≤ Nat.gcd n.natAbs d.toNat := Nat.gcd_pos_of_pos_right _ (by omega)
  have q1 := fun W => size_any n W (by omega)
  have ed : ((d.toNat : Nat) : Int) = d := by omega
  have q2 := fun g W h => common_any d.toNat n.natAbs g W ⟨by omega, by omega⟩ h
  rw [ed] at q2
  generalize Nat.gcd n.natAbs d.toNat = G at *
  have g0 : ¬ (G : Int) = 0 := by omega
  have g2 : ¬ G = 0 := by omega
  have g1 : ((G : Int) == 0) = false := by rw [beq_eq_false_iff_ne]; exact g0
  have t1 : -1000000000 ≤ n.tdiv G ∧ n.tdiv G ≤ 1000000000 := by
    have := Int.natAbs_tdiv_le_natAbs n G
    omega
  have t2 : -1000000000 ≤ d.tdiv G ∧ d.tdiv G ≤ 1000000000 := by
    have := Int.natAbs_tdiv_le_natAbs d G
    omega
  have k1 : IntKind.i64.wrap (n.tdiv G) = n.tdiv G := IntWalk.i64_in _ (by omega)
  have k2 : IntKind.i64.wrap (d.tdiv G) = d.tdiv G := IntWalk.i64_in _ (by omega)
  clear t1 t2
  have H_hn := Lib.hid hn; clear hn; have H_hd := Lib.hid hd; clear hd; have H_hg := Lib.hid hg; clear hg; have H_q1 := Lib.hid q1; clear q1; have H_q2 := Lib.hid q2; clear q2; have H_ed := Lib.hid ed; clear ed
  go_enter Tryd.func45, Tryd.ntmps45
  go_upto_region 3 with (fail)
  obtain ⟨w1, hw1⟩ : ∃ W, ((w.alloc (.cells #[.int .i64 n, .int .i64 d] 72)).alloc (.cells #[.int .i64 0, .int .i64 0] 72)).alloc (.cells #[.func (.func 51) #[] #[.pointer (some ⟨w.heap.size + 1 + 1, 0, none⟩)]] 61) = W := ⟨_, rfl⟩
  rw [hw1]
  have bb1 : Below w.heap.size w w1 := by rw [← hw1]; exact (((Below.refl _ _).alloc (Nat.le_refl _) _).alloc (by simp) _).alloc (by simp; omega) _
  have f1 : Blk w1 w.heap.size #[.int .i64 n, .int .i64 d] := by rw [← hw1]; exact ((blk_new rfl).alloc _).alloc _
  have r1 : Blk w1 (w.heap.size + 1) #[.int .i64 0, .int .i64 0] := by rw [← hw1]; exact (blk_new (by simp)).alloc _
  have s1 : Blk w1 (w.heap.size + 1 + 1) #[.func (.func 51) #[] #[.pointer (some ⟨w.heap.size + 1 + 1, 0, none⟩)]] := by rw [← hw1]; exact blk_new (by simp)
  have hs : SelfAt w1 (w.heap.size + 1 + 1) := ⟨(s1 0 _ rfl).at, (s1 0 _ rfl).lt⟩
  have y0 := (f1 0 _ rfl).at
  have y1 := (f1 1 _ rfl).at
  have z0 := (s1 0 _ rfl).at
  have ly := (f1 0 _ rfl).lt
  have lz := (s1 0 _ rfl).lt
  have H_hw1 := Lib.hid hw1; clear hw1; have H_bb1 := Lib.hid bb1; clear bb1; have H_f1 := Lib.hid f1; clear f1; have H_r1 := Lib.hid r1; clear r1; have H_s1 := Lib.hid s1; clear s1; have H_hs := Lib.hid hs; clear hs
  go_cut [4] from 6 to 12 (fun c4 wx => c4 = .int .i64 G ∧ Below w1.heap.size w1 wx)
  case first =>
    go_region_held3 (fun W => (∀ b o, b < w1.heap.size → W.cell? ⟨b, o, none⟩ = w1.cell? ⟨b, o, none⟩) ∧ Below w1.heap.size w1 W) (first | (refine ext_mk ?_; (repeat (first | with_reducible exact Below.refl _ _ | with_reducible exact Nat.le_refl _ | with_reducible assumption | with_reducible refine Below.drew ?_ | with_reducible refine below_drewN ?_ _ | with_reducible refine Below.alloc ?_ ?_ _ | with_reducible refine Below.setCell ?_ ?_ _ | with_reducible exact And.right (by assumption) | with_reducible refine Below.trans ?_ (Below.mono (by assumption) ?_) | with_reducible exact Below.size (And.right (by assumption)) | (focus omega) | (focus (simp; done)) | (focus (simp; omega)) | (focus (simp at *; omega)))))) (first | (go_at_call 40; (with_reducible refine (H_q1.out _).mono ?_); rintro e w_ ⟨rfl, rfl⟩) | (go_at_call 51; (with_reducible refine (H_q2.out _ _ ?_).mono ?_); (focus (exact H_hs.out.below (And.right (by assumption : _ ∧ Below w1.heap.size w1 _)))); rintro e w2 ⟨rfl, hbw2⟩; have gw2 := Below.trans (And.right (by assumption : _ ∧ Below w1.heap.size w1 _)) (hbw2.mono (Below.size (And.right (by assumption : _ ∧ Below w1.heap.size w1 _)))); have gsw2 := gw2.size; have hcf := bcell hbw2; have hcw2 := hcf.1; have hfw2 := hcf.2; have hsw2 := hbw2.size; (try simp only [World.size_alloc, World.heap_drewN, heap_drew] at hsw2); clear hbw2 hcf; (try have hzw2 : w1.heap.size < w2.heap.size := by omega)))
    all_goals
      have gF : Below w1.heap.size w1 _ := And.right (by assumption)
      have H_gF := Lib.hid gF; clear gF
      go_wp2_with fail
      go_meet
      case rel => exact ⟨by first | rfl | (rw [Nat.gcd_comm]), H_gF.out⟩
  case rest =>
    obtain ⟨rfl, c2⟩ := hcut
    obtain ⟨w2, hw2⟩ : ∃ W, wc = W := ⟨_, rfl⟩
    rw [hw2] at c2 ⊢
    have f2 := H_f1.out.below c2
    have r2 := H_r1.out.below c2
    have bb2 := H_bb1.out.trans (c2.mono H_bb1.out.size)
    clear y0 y1 z0 ly lz
    have y0 := (f2 0 _ rfl).at
    have y1 := (f2 1 _ rfl).at
    have x0 := (r2 0 _ rfl).at
    have x1 := (r2 1 _ rfl).at
    have v0 := (r2 0 _ rfl).free
    have v1 := (r2 1 _ rfl).free
    have ly := (f2 0 _ rfl).lt
    have lx := (r2 0 _ rfl).lt
    have bf : Below w.heap.size w (putL w2 (w.heap.size + 1) 0 [.int .i64 (n.tdiv G), .int .i64 (d.tdiv G)]).drew := (putL_below (by omega) _ _ _ bb2).drew
    simp only [putL, Nat.reduceAdd] at bf
    have H_hw2 := Lib.hid hw2; clear hw2; have H_c2 := Lib.hid c2; clear c2; have H_f2 := Lib.hid f2; clear f2; have H_r2 := Lib.hid r2; clear r2; have H_bb2 := Lib.hid bb2; clear bb2; have H_bf := Lib.hid bf; clear bf
    go_upto_region 4 with (fail)
    refine wp_region_held_drew (S := (fun W => W.cell? ⟨w.heap.size, 0, none⟩ = some (.int .i64 n) ∧ W.cell? ⟨w.heap.size, 1, none⟩ = some (.int .i64 d))) (by kernel_rfl) ?_ (fun hHeld => ?_)
    · (try dsimp only); go_keep
    refine take_at (i := 0) (some 13) rfl rfl (by kernel_rfl) (fun _ _ _ h => h) (by rfl) (v := ?_) ?_ (by assumption) ?_
    rotate_left
    · intro W hSw; (try dsimp only at hSw); go_simp; (try with_reducible rfl)
    (try simp only [Act.put, List.setIfInBounds_toArray, List.set_cons_zero, List.set_cons_succ])
    refine take_at (i := 1) (some 14) rfl rfl (by kernel_rfl) (fun _ _ _ h => h) (by rfl) (v := ?_) ?_ (by assumption) ?_
    rotate_left
    · intro W hSw; (try dsimp only at hSw); go_simp; (try with_reducible rfl)
    (try simp only [Act.put, List.setIfInBounds_toArray, List.set_cons_zero, List.set_cons_succ])
    refine take_at (i := 2) (some 15) rfl rfl (by kernel_rfl) (fun _ _ _ h => h) (by rfl) (v := ?_) ?_ (by assumption) ?_
    rotate_left
    · intro W hSw; (try dsimp only at hSw); go_simp; (try with_reducible rfl)
    (try simp only [Act.put, List.setIfInBounds_toArray, List.set_cons_zero, List.set_cons_succ])
    refine take_at (i := 3) (some 16) rfl rfl (by kernel_rfl) (fun _ _ _ h => h) (by rfl) (v := ?_) ?_ (by assumption) ?_
    rotate_left
    · intro W hSw; (try dsimp only at hSw); go_simp; (try with_reducible rfl)
    (try simp only [Act.put, List.setIfInBounds_toArray, List.set_cons_zero, List.set_cons_succ])
    refine take_at (i := 4) (some 17) rfl rfl (by kernel_rfl) (fun _ _ _ h => h) (by rfl) (v := ?_) ?_ (by assumption) ?_
    rotate_left
    · intro W hSw; (try dsimp only at hSw); go_simp; (try with_reducible rfl)
    (try simp only [Act.put, List.setIfInBounds_toArray, List.set_cons_zero, List.set_cons_succ])
    refine take_at (i := 5) (some 18) rfl rfl (by kernel_rfl) (fun _ _ _ h => h) (by rfl) (v := ?_) ?_ (by assumption) ?_
    rotate_left
    · intro W hSw; (try dsimp only at hSw); go_simp; (try with_reducible rfl)
    (try simp only [Act.put, List.setIfInBounds_toArray, List.set_cons_zero, List.set_cons_succ])
    refine take_at (i := 6) (some 19) rfl rfl (by kernel_rfl) (fun _ _ _ h => h) (by rfl) (v := ?_) ?_ (by assumption) ?_
    rotate_left
    · intro W hSw; (try dsimp only at hSw); go_simp; (try with_reducible rfl)
    (try simp only [Act.put, List.setIfInBounds_toArray, List.set_cons_zero, List.set_cons_succ])
    refine take_at (i := 7) (some 20) rfl rfl (by kernel_rfl) (fun _ _ _ h => h) (by rfl) (v := ?_) ?_ (by assumption) ?_
    rotate_left
    · intro W hSw; (try dsimp only at hSw); go_simp; (try with_reducible rfl)
    (try simp only [Act.put, List.setIfInBounds_toArray, List.set_cons_zero, List.set_cons_succ])
    refine take_at (i := 8) (some 21) rfl rfl (by kernel_rfl) (fun _ _ _ h => h) (by rfl) (v := ?_) ?_ (by assumption) ?_
    rotate_left
    · intro W hSw; (try dsimp only at hSw); go_simp; (try with_reducible rfl)
    (try simp only [Act.put, List.setIfInBounds_toArray, List.set_cons_zero, List.set_cons_succ])
    refine wpAnyH_ready (rs := [9]) (by kernel_rfl) (by simp) ?_
    refine AllReadyH.cons rfl (fun K hK => ?_) AllReadyH.nil
    go_simp
    refine hK.out _ _ ?_ (fun hHeld => ?_)
    · (try dsimp only); go_keep
    clear hK K
    (try simp only [Act.put, List.setIfInBounds_toArray, List.set_cons_zero, List.set_cons_succ])
    refine wpAnyH_done (by kernel_rfl) ?_ _
    go_wp2_with fail
    refine bodyPost_ret (v := .agg #[.int .i64 (n.tdiv G), .int .i64 (d.tdiv G)]) (by simp [results, Tryd.results45, go_sem, *]) rfl ⟨rfl, H_bf.out⟩
end Go.Proofs.YtaloadadecoogaaDoor
