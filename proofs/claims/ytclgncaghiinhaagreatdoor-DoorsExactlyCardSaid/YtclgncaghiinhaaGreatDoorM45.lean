/- The walk of DoorsApart. -/
import Derived.Test.YtclgncaghiinhaaGreatDoorM44
set_option linter.unusedSimpArgs false
set_option linter.unusedVariables false
set_option maxRecDepth 100000
namespace Go.Proofs.YtclgncaghiinhaaGreatDoor
open Go.RowKit
theorem OwnRows.ne {α β : Type} {E E' : TypeId} {C C' : Nat} {f : α → List Value} {f' : β → List Value} {w : World} {b b' : Nat} {A B : Option Addr} {c c' : Nat} {l : List α} {l' : List β} (hE : E ≠ E') (h : OwnRows E C f w b A c l) (h' : OwnRows E' C' f' w b' B c' l') : blockOf B = none ∨ blockOf B ≠ blockOf A := by
  by_cases hB : blockOf B = none
  · exact .inl hB
  refine .inr fun e => ?_
  rcases h'.2 with ⟨hv, _⟩ | ⟨g, cap, cur, hv, _, hh, _⟩
  · injection hv with h1 _ _
    rw [h1] at hB; exact hB rfl
  injection hv with h1 _ _
  rw [h1] at e
  rcases h.2 with ⟨hv2, _⟩ | ⟨g2, cap2, cur2, hv2, _, hh2, _⟩
  · injection hv2 with h2 _ _
    rw [h2] at e; cases e
  · injection hv2 with h2 _ _
    rw [h2] at e
    cases e
    rw [hh] at hh2
    cases hh2
    exact hE rfl
/-- a slice of one lock -/
theorem Locks.sub {w : World} {b off : Nat} {Ps : List LkP} (h : Locks w (some ⟨b, off, none⟩) Ps) {k : Nat} {P : LkP} (hk : Ps[k]? = some P) : Locks w (some ⟨b, off + k * 12, none⟩) [P] := fun i z hz => by
  have hi : i = 0 := by
    have := (List.getElem?_eq_some_iff.1 hz).1
    simp at this; omega
  subst hi
  have e : P = z := by simpa using hz
  subst e
  obtain ⟨b', off', cs, e, hlt, hl, hc, ha⟩ := h k P hk
  cases e
  refine ⟨b, off + k * 12, cs, rfl, hlt, hl, fun j hj => ?_, ha⟩
  rw [Nat.zero_mul, Nat.zero_add, Nat.add_assoc]
  exact hc j hj
theorem apart_plain {ls : List Lk} {cs : List Crd} {ss : List Sh4} (h : runB ls cs ss = true) {k : Nat} (hk : k < ls.length) :
    runB [lkD ls k] cs (selS (fun s => s.a == (k : Int)) (fun s => { s with a := 0 }) ss) = true ∧ runW [lkD ls k] cs (selS (fun s => s.a == (k : Int)) (fun s => { s with a := 0 }) ss) = selB (fun s => s.a == (k : Int)) ss (runW ls cs ss) ∧ runL [lkD ls k] cs (selS (fun s => s.a == (k : Int)) (fun s => { s with a := 0 }) ss) = [lkD (runL ls cs ss) k] := by
  obtain ⟨hv, hc, hg⟩ := run_good h
  have ha : ∀ s ∈ ss, 0 ≤ s.a := fun s hs => (hg s hs).a0
  have hB : runB [lkD ls k] cs (selS (fun s => s.a == (k : Int)) (fun s => { s with a := 0 }) ss) = true := by
    have h1 : lksB [lkD ls k] = true := by
      have := hv k hk
      simp [lksB, this]
    have h2 : noneW [lkD ls k].length cs.length (selS (fun s => s.a == (k : Int)) (fun s => { s with a := 0 }) ss) = true := by
      rw [none_iff]
      intro s hs
      obtain ⟨x, hx, rfl⟩ := List.mem_map.1 hs
      have g := hg x (List.mem_filter.1 hx).1
      exact ⟨Int.le_refl _, by simp, g.b0, g.b1, g.d0, g.d1, g.t⟩
    rw [runB, h1, hc, h2]; rfl
  obtain ⟨e1, e2⟩ := apart_run cs k (ss.map Sh4.shw) ls (lkD ls k) (fun s hs => by
    obtain ⟨x, hx, rfl⟩ := List.mem_map.1 hs
    have a0 := (hg x hx).a0; have a1 := (hg x hx).a1
    show x.a.toNat < _
    omega) hk rfl
  rw [wntK_is k ss _ ha, ownS_is k ss ha] at e1
  rw [ownS_is k ss ha] at e2
  refine ⟨hB, ?_, ?_⟩
  · rw [(ran hB).1, (ran h).1]; exact e1.symm
  · rw [(ran hB).2.2.2.1, (ran h).2.2.2.1]; exact e2.symm
set_option maxRecDepth 100000 in
set_option maxHeartbeats 32000000 in
theorem doorsApart_walk (A : Option Addr) (cp : Nat) (Ps : List LkP) (X : Option Addr) (cx : Nat) (cs : List Crd) (Y : Option Addr) (cy : Nat) (ss : List Sh4) (wh : Int) (w0 : World) (hl : LocksArg w0 A Ps) (hlc : Ps.length ≤ cp) (hlm : cp ≤ maxLen) (hcs : Cards w0 X cs) (hcc : cs.length ≤ cx) (hcm : cx ≤ maxLen) (hss : Shows w0 Y ss) (hsc : ss.length ≤ cy) (hsm : cy ≤ maxLen) (hwh : (Lit.int .u8 wh).wf = true) (ht : Tab w0) :
    Calls Tryz.prog 5 #[.slice A Ps.length cp, .slice X cs.length cx, .slice Y ss.length cy, .int .u8 wh] w0 fun e w' => e = .returned (.bool true) ∧ Below w0.heap.size w0 w' := by
  unfold maxLen at hlm hcm hsm
  have q1 := head38_any w0 ht
  have q2 := fun W (h : Below w0.heap.size w0 W) => rdfew_any A cp Ps.length Ps X cx cs.length Y cy ss.length W rfl (by omega) (by omega) (by omega) (hl.below h)
  have bb0 := Below.refl w0.heap.size w0
  have hwh2 : 0 ≤ wh ∧ wh ≤ 255 := by rw [Lit.wf_int_iff] at hwh; exact hwh
  obtain ⟨V, hV⟩ : ∃ V : Nat, wh = (V : Int) := ⟨wh.toNat, by omega⟩
  subst hV
  cases hF : fewD Ps Ps.length cs.length ss.length with
  | false =>
    rw [hF] at q2
    generalize Ps.length = n at *
    generalize cs.length = m at *
    generalize ss.length = k at *
    have ⟨H_q1, H_q2, H_bb0, H_hl, H_hcs, H_hss, H_ht, H_hF⟩ := hid8 q1 q2 bb0 hl hcs hss ht hF; clear q1 q2 bb0 hl hcs hss ht hF; have H_hwh := Lib.hid hwh; clear hwh
    go_enter Tryz.func5, Tryz.ntmps5
    go_wp2_with fail
    (with_reducible refine (H_q1.out).mono ?_)
    rintro e w1 ⟨rfl, b1⟩
    have c1 : Below w0.heap.size w0 w1 := Below.trans belt (b1.mono omh)
    have s1 := c1.size
    have bb1 := H_bb0.out.trans (c1.mono H_bb0.out.size)
    have ⟨H_b1, H_c1, H_bb1⟩ := hid3 b1 c1 bb1; clear b1 c1 bb1
    go_wp2_with fail
    (with_reducible refine (H_q2.out _ ?_).mono ?_)
    · exact H_bb1.out.trans ((show Below w1.heap.size w1 _ from belt).mono H_bb1.out.size)
    rintro e w2 ⟨rfl, b2⟩
    have c2 : Below w1.heap.size w1 w2 := Below.trans belt (b2.mono omh)
    have s2 := c2.size
    have bb2 := H_bb1.out.trans (c2.mono H_bb1.out.size)
    have ⟨H_b2, H_c2, H_bb2⟩ := hid3 b2 c2 bb2; clear b2 c2 bb2
    go_wp2_with fail
    go_ret
    exact ⟨rfl, H_bb2.out⟩
  | true =>
    rw [hF] at q2
    obtain ⟨hL, n10, m20, k20⟩ := few_locks hl hF
    by_cases hn0 : Ps.length = 0
    · generalize hn : Ps.length = n at *
      generalize cs.length = m at *
      generalize ss.length = k at *
      subst hn0
      have ⟨H_q1, H_q2, H_bb0, H_hl, H_hcs, H_hss, H_ht, H_hF⟩ := hid8 q1 q2 bb0 hl hcs hss ht hF; clear q1 q2 bb0 hl hcs hss ht hF; have ⟨H_hwh, H_hn, H_hL⟩ := hid3 hwh hn hL; clear hwh hn hL
      go_enter Tryz.func5, Tryz.ntmps5
      go_wp2_with fail
      (with_reducible refine (H_q1.out).mono ?_)
      rintro e w1 ⟨rfl, b1⟩
      have c1 : Below w0.heap.size w0 w1 := Below.trans belt (b1.mono omh)
      have s1 := c1.size
      have bb1 := H_bb0.out.trans (c1.mono H_bb0.out.size)
      have ⟨H_b1, H_c1, H_bb1⟩ := hid3 b1 c1 bb1; clear b1 c1 bb1
      go_wp2_with fail
      (with_reducible refine (H_q2.out _ ?_).mono ?_)
      · exact H_bb1.out.trans ((show Below w1.heap.size w1 _ from belt).mono H_bb1.out.size)
      rintro e w2 ⟨rfl, b2⟩
      have c2 : Below w1.heap.size w1 w2 := Below.trans belt (b2.mono omh)
      have s2 := c2.size
      have bb2 := H_bb1.out.trans (c2.mono H_bb1.out.size)
      have ⟨H_b2, H_c2, H_bb2⟩ := hid3 b2 c2 bb2; clear b2 c2 bb2
      go_wp2_with fail
      go_ret
      exact ⟨rfl, H_bb2.out⟩
    obtain ⟨K, hK⟩ : ∃ K, V % Ps.length = K := ⟨_, rfl⟩
    have hKn : K < Ps.length := by rw [← hK]; exact Nat.mod_lt _ (by omega)
    obtain ⟨P0, hP0⟩ : ∃ P, Ps[K]? = some P := ⟨_, List.getElem?_eq_getElem hKn⟩
    obtain ⟨bA, oA, rfl, _, _, _⟩ := hL.at hP0
    have q3 := fun W (h : Below w0.heap.size w0 W) => drun_any (some ⟨bA, oA, none⟩) cp Ps.length Ps X cx cs.length cs Y cy ss.length ss W rfl rfl rfl (by omega) (by omega) (by omega) (hL.below h) (hcs.below h) (hss.below h) (ht.below h)
    have hrem : (V : Int).tmod (Ps.length : Int) = (K : Int) := by rw [← hK]; rfl
    obtain ⟨n, hn⟩ : ∃ n, Ps.length = n := ⟨_, rfl⟩
    obtain ⟨m, hm⟩ : ∃ n, cs.length = n := ⟨_, rfl⟩
    obtain ⟨k, hk⟩ : ∃ n, ss.length = n := ⟨_, rfl⟩
    rw [hn, hm, hk]
    rw [hn, hm, hk] at q2 q3
    rw [hn] at n10 hn0 hKn hrem hlc
    rw [hm] at m20
    rw [hk] at k20
    have wv : IntKind.i64.wrap (V : Int) = (V : Int) := IntWalk.i64_in _ (by omega)
    have wk : IntKind.i64.wrap (K : Int) = (K : Int) := IntWalk.i64_in _ (by omega)
    have wk1 : IntKind.i64.wrap ((K : Int) + 1) = (K : Int) + 1 := IntWalk.i64_in _ (by omega)
    have nz : ¬ (n : Int) = 0 := by omega
    have nzb : ((n : Int) == 0) = false := by simp; omega
    cases hB : runB (Ps.map LkP.L) cs ss with
    | false =>
      obtain ⟨r1, r2, r3⟩ := ran_not hB
      rw [r1, r2, r3] at q3
      unfold RunRes at q3
      simp only [List.length_nil] at q3
      have ⟨H_q1, H_q2, H_q3, H_bb0, H_hl, H_hL, H_hcs, H_hss⟩ := hid8 q1 q2 q3 bb0 hl hL hcs hss; clear q1 q2 q3 bb0 hl hL hcs hss; have ⟨H_ht, H_hF, H_hB, H_hn, H_hm, H_hk, H_r1, H_r2⟩ := hid8 ht hF hB hn hm hk r1 r2; clear ht hF hB hn hm hk r1 r2; have ⟨H_r3, H_hK, H_hP0, H_hwh⟩ := hid4 r3 hK hP0 hwh; clear r3 hK hP0 hwh
      go_enter Tryz.func5, Tryz.ntmps5
      go_wp2_with fail
      (with_reducible refine (H_q1.out).mono ?_)
      rintro e w1 ⟨rfl, b1⟩
      have c1 : Below w0.heap.size w0 w1 := Below.trans belt (b1.mono omh)
      have s1 := c1.size
      have bb1 := H_bb0.out.trans (c1.mono H_bb0.out.size)
      have ⟨H_b1, H_c1, H_bb1⟩ := hid3 b1 c1 bb1; clear b1 c1 bb1
      go_wp2_with fail
      (with_reducible refine (H_q2.out _ ?_).mono ?_)
      · exact H_bb1.out.trans ((show Below w1.heap.size w1 _ from belt).mono H_bb1.out.size)
      rintro e w2 ⟨rfl, b2⟩
      have c2 : Below w1.heap.size w1 w2 := Below.trans belt (b2.mono omh)
      have s2 := c2.size
      have bb2 := H_bb1.out.trans (c2.mono H_bb1.out.size)
      have ⟨H_b2, H_c2, H_bb2⟩ := hid3 b2 c2 bb2; clear b2 c2 bb2
      go_wp2_with fail
      (with_reducible refine (H_q3.out _ ?_).mono ?_)
      · exact H_bb2.out.trans ((show Below w2.heap.size w2 _ from belt).mono H_bb2.out.size)
      rintro e w3 ⟨A3, c3, P3, O3, k3, rfl, _, _, _, _, _, b3⟩
      have c3 : Below w2.heap.size w2 w3 := Below.trans belt (b3.mono omh)
      have s3 := c3.size
      have bb3 := H_bb2.out.trans (c3.mono H_bb2.out.size)
      have ⟨H_b3, H_c3, H_bb3⟩ := hid3 b3 c3 bb3; clear b3 c3 bb3
      go_wp2_with fail
      go_ret
      exact ⟨rfl, H_bb3.out⟩
    | true =>
      obtain ⟨u1, u2, u3⟩ := apart_plain hB (k := K) (by rw [List.length_map, hn]; exact hKn)
      have eL : lkD (Ps.map LkP.L) K = P0.L := lkD_at (by rw [List.getElem?_map, hP0]; rfl)
      rw [eL] at u1 u2 u3
      obtain ⟨_, r2, r3, _, r5⟩ := ran hB
      rw [r3] at q3
      rw [hk] at r2
      rw [List.length_map, hn] at r5
      have hg := (run_good hB).2.2
      generalize runW (Ps.map LkP.L) cs ss = RW at *
      generalize runL (Ps.map LkP.L) cs ss = RL at *
      unfold RunRes at q3
      rw [r2, r5] at q3
      have ⟨H_q1, H_q2, H_q3, H_bb0, H_hl, H_hL, H_hcs, H_hss⟩ := hid8 q1 q2 q3 bb0 hl hL hcs hss; clear q1 q2 q3 bb0 hl hL hcs hss; have ⟨H_ht, H_hF, H_hB, H_hn, H_hm, H_hk, H_r2, H_r3⟩ := hid8 ht hF hB hn hm hk r2 r3; clear ht hF hB hn hm hk r2 r3; have ⟨H_r5, H_hK, H_hP0, H_hwh, H_u1, H_u2, H_u3, H_eL⟩ := hid8 r5 hK hP0 hwh u1 u2 u3 eL; clear r5 hK hP0 hwh u1 u2 u3 eL; have H_hg := Lib.hid hg; clear hg
      go_enter Tryz.func5, Tryz.ntmps5
      go_wp2_with fail
      (with_reducible refine (H_q1.out).mono ?_)
      rintro e w1 ⟨rfl, b1⟩
      have c1 : Below w0.heap.size w0 w1 := Below.trans belt (b1.mono omh)
      have s1 := c1.size
      have bb1 := H_bb0.out.trans (c1.mono H_bb0.out.size)
      have ⟨H_b1, H_c1, H_bb1⟩ := hid3 b1 c1 bb1; clear b1 c1 bb1
      go_wp2_with fail
      (with_reducible refine (H_q2.out _ ?_).mono ?_)
      · exact H_bb1.out.trans ((show Below w1.heap.size w1 _ from belt).mono H_bb1.out.size)
      rintro e w2 ⟨rfl, b2⟩
      have c2 : Below w1.heap.size w1 w2 := Below.trans belt (b2.mono omh)
      have s2 := c2.size
      have bb2 := H_bb1.out.trans (c2.mono H_bb1.out.size)
      have ⟨H_b2, H_c2, H_bb2⟩ := hid3 b2 c2 bb2; clear b2 c2 bb2
      go_wp2_with fail
      (with_reducible refine (H_q3.out _ ?_).mono ?_)
      · exact H_bb2.out.trans ((show Below w2.heap.size w2 _ from belt).mono H_bb2.out.size)
      rintro e w3 ⟨A3, cc3, P3, O3, kk3, rfl, pl3, lk3, ob3, cn3, cm3, b3⟩
      have c3 : Below w2.heap.size w2 w3 := Below.trans belt (b3.mono omh)
      have s3 := c3.size
      have bb3 := H_bb2.out.trans (c3.mono H_bb2.out.size)
      have ⟨H_b3, H_c3, H_bb3⟩ := hid3 b3 c3 bb3; clear b3 c3 bb3
      have ln3 : P3.length = n := by rw [← List.length_map (f := LkP.L), pl3]; exact H_r5.out
      obtain ⟨Q0, hQ0⟩ : ∃ P, P3[K]? = some P := ⟨_, List.getElem?_eq_getElem (by rw [ln3]; exact hKn)⟩
      obtain ⟨b3, o3, rfl, _, _, _⟩ := lk3.at hQ0
      have sub3 := lk3.sub hQ0
      have eQ : Q0.L = lkD RL K := (lkD_at (by rw [← pl3, List.getElem?_map, hQ0]; rfl)).symm
      have ⟨H_ob3, H_lk3, H_pl3, H_sub3, H_eQ, H_hQ0, H_cm3⟩ := hid7 ob3 lk3 pl3 sub3 eQ hQ0 cm3; clear ob3 lk3 pl3 sub3 eQ hQ0 cm3
      go_upto_region 13 with (fail)
      go_loopw [14, 15, 16] (fun u v i wr => ∃ (j : Nat) (A4 : Option Addr) (N4 c4 : Nat) (A5 : Option Addr) (N5 c5 : Nat), j ≤ k ∧ u = .slice A4 N4 c4 ∧ v = .slice A5 N5 c5 ∧ i = .int .i64 j ∧ (selS (fun s => s.a == (K : Int)) (fun s => { s with a := 0 }) (ss.take j)).length = N4 ∧ OwnS wr w3.heap.size A4 c4 (selS (fun s => s.a == (K : Int)) (fun s => { s with a := 0 }) (ss.take j)) ∧ (selB (fun s => s.a == (K : Int)) (ss.take j) (RW.take j)).length = N5 ∧ OwnB wr w3.heap.size A5 c5 (selB (fun s => s.a == (K : Int)) (ss.take j) (RW.take j)) ∧ Below w3.heap.size w3 wr) (fun _ _ i _ => k - (intOf i).toNat)
      case atStart => exact ⟨0, none, 0, 0, none, 0, 0, by omega, rfl, rfl, rfl, rfl, OwnRows.nil _ _ _ _ _, rfl, OwnRows.nil _ _ _ _ _, Below.refl _ _⟩
      case round =>
        obtain ⟨j, A4, N4, c4, A5, N5, c5, hj, rfl, rfl, rfl, l4, ow4, l5, ow5, bz⟩ := hrel
        have szw := bz.size
        by_cases hlt : j < k
        rotate_left
        · have g1 : ¬ (j : Int) < (k : Int) := by omega
          have ej : j = k := by omega
          rw [ej, List.take_of_length_le (by rw [H_hk.out]; exact Nat.le_refl _)] at l4 ow4 l5 ow5
          rw [List.take_of_length_le (by rw [H_r2.out]; exact Nat.le_refl _)] at l5 ow5
          have bw := H_bb3.out.trans (bz.mono H_bb3.out.size)
          have hN4 : N4 ≤ 20 := by
            have := selS_le (fun s => s.a == (K : Int)) (fun s => { s with a := 0 }) ss
            rw [l4, H_hk.out] at this; omega
          have q4 := fun W (h : Below wr.heap.size wr W) => drun_any (some ⟨bA, oA + K * 12, none⟩) (cp - K) 1 [P0] X cx m cs A4 c4 N4 (selS (fun s => s.a == (K : Int)) (fun s => { s with a := 0 }) ss) W rfl H_hm.out l4 (by omega) (by omega) (by omega) ((H_hL.out.sub H_hP0.out).below (bw.trans (h.mono bw.size))) (H_hcs.out.below (bw.trans (h.mono bw.size))) (ow4.shows.below h) (H_ht.out.below (bw.trans (h.mono bw.size)))
          simp only [List.map_cons, List.map_nil] at q4
          have ln5 : N5 = N4 := by
            have := sel_len (q := fun s => s.a == (K : Int)) (f := fun s => { s with a := 0 }) (l := ss) (o := RW) (by rw [H_hk.out, H_r2.out])
            rw [l4, l5] at this; exact this
          have rN := (ran H_u1.out).2.2.1
          rw [rN, H_u2.out, H_u3.out] at q4
          unfold RunRes at q4
          rw [l5] at q4
          simp only [List.length_cons, List.length_nil, Nat.zero_add] at q4
          have bl5 := ow5.bls
          generalize selB (fun s => s.a == (K : Int)) ss RW = WB at *
          subst ln5
          have q5 := fun W (c : Nat) (O : Option Addr) (h : Bls W O WB) (h2 : Below wr.heap.size wr W) => rdbools_any O c N5 WB A5 c5 N5 WB W l5 l5 (by omega) (by omega) h (bl5.below h2)
          rw [decide_eq_true rfl] at q5
          have q6 := fun W (B : Option Addr) (cq : Nat) (Qs : List LkP) (h1 : Qs.map LkP.L = [lkD RL K]) (h2 : Locks W B Qs) (h3 : Below w3.heap.size w3 W) => rdlocks_self B cq 1 Qs (some ⟨b3, o3 + K * 12, none⟩) (cc3 - K) [Q0] W (by rw [← List.length_map (f := LkP.L), h1]; rfl) (by omega) (by rw [h1, List.map_cons, List.map_nil, H_eQ.out]) h2 (H_sub3.out.below h3)
          have i1 : (0 : Int) ≤ (K : Int) := by omega
          have i2 : (K : Int) ≤ (K : Int) + 1 := by omega
          have i3 : (K : Int) + 1 ≤ (cp : Int) := by omega
          have i4 : (K : Int) + 1 ≤ (cc3 : Int) := by omega
          obtain ⟨w6, hw6⟩ : ∃ W, wr = W := ⟨_, rfl⟩
          rw [hw6] at q4 q5 bz bw ⊢
          have bb6 := bw
          have x6 := bz
          have ⟨H_q4, H_q5, H_q6, H_l4, H_l5, H_ow4, H_ow5, H_bz⟩ := hid8 q4 q5 q6 l4 l5 ow4 ow5 bz; clear q4 q5 q6 l4 l5 ow4 ow5 bz; have ⟨H_bw, H_bl5, H_rN, H_hw6, H_bb6, H_x6⟩ := hid6 bw bl5 rN hw6 bb6 x6; clear bw bl5 rN hw6 bb6 x6
          go_wp2_with fail
          (with_reducible refine (H_q4.out _ ?_).mono ?_)
          · exact (show Below w6.heap.size w6 _ from belt)
          rintro e w7 ⟨A7, cc7, P7, O7, kk7, rfl, pl7, lk7, ob7, _, _, b7⟩
          have c7 : Below w6.heap.size w6 w7 := Below.trans belt (b7.mono omh)
          have s7 := c7.size
          have bb7 := H_bb6.out.trans (c7.mono H_bb6.out.size)
          have ⟨H_b7, H_c7, H_bb7⟩ := hid3 b7 c7 bb7; clear b7 c7 bb7
          have s7 := H_c7.out.size
          have ⟨H_pl7, H_lk7, H_ob7⟩ := hid3 pl7 lk7 ob7; clear pl7 lk7 ob7
          go_wp2_with fail
          (with_reducible refine (H_q5.out _ _ _ ?_ ?_).mono ?_)
          · exact Bls.below H_ob7.out (show Below w7.heap.size w7 _ from belt)
          · exact H_c7.out.trans ((show Below w7.heap.size w7 _ from belt).mono H_c7.out.size)
          rintro e w8 ⟨rfl, b8⟩
          have c8 : Below w7.heap.size w7 w8 := Below.trans belt (b8.mono omh)
          have s8 := c8.size
          have bb8 := H_bb7.out.trans (c8.mono H_bb7.out.size)
          have ⟨H_b8, H_c8, H_bb8⟩ := hid3 b8 c8 bb8; clear b8 c8 bb8
          have x8 : Below w3.heap.size w3 w8 := (H_x6.out.trans (H_c7.out.mono H_x6.out.size)).trans (H_c8.out.mono (Nat.le_trans H_x6.out.size H_c7.out.size))
          have lk8 := H_lk7.out.below H_c8.out
          have ⟨H_x8, H_lk8⟩ := hid2 x8 lk8; clear x8 lk8
          go_wp2_with fail
          (with_reducible refine (H_q6.out _ _ _ P7 ?_ ?_ ?_).mono ?_)
          · exact H_pl7.out
          · exact H_lk8.out.below (show Below w8.heap.size w8 _ from belt)
          · exact H_x8.out.trans ((show Below w8.heap.size w8 _ from belt).mono H_x8.out.size)
          rintro e w9 ⟨rfl, b9⟩
          have c9 : Below w8.heap.size w8 w9 := Below.trans belt (b9.mono omh)
          have s9 := c9.size
          have bb9 := H_bb8.out.trans (c9.mono H_bb8.out.size)
          have ⟨H_b9, H_c9, H_bb9⟩ := hid3 b9 c9 bb9; clear b9 c9 bb9
          go_wp2_with fail
          go_ret
          exact ⟨rfl, H_bb9.out⟩
        have g1 : (j : Int) < (k : Int) := by omega
        have g0 : (0 : Int) ≤ (j : Int) := by omega
        obtain ⟨s, hs⟩ : ∃ s, ss[j]? = some s := ⟨_, List.getElem?_eq_getElem (by rw [H_hk.out]; exact hlt)⟩
        obtain ⟨o, ho⟩ : ∃ s, RW[j]? = some s := ⟨_, List.getElem?_eq_getElem (by rw [H_r2.out]; exact hlt)⟩
        have e4 := selS_snoc (q := fun s => s.a == (K : Int)) (f := fun s => { s with a := 0 }) hs
        have e5 := selB_snoc (q := fun s => s.a == (K : Int)) hs ho
        have bw := H_bb3.out.trans (bz.mono H_bb3.out.size)
        obtain ⟨bs, os, eY, zs, e0', e1', e2', e3'⟩ := H_hss.out.at hs
        obtain ⟨bs', os', eY', zs', c0, c1, c2, c3'⟩ := (H_hss.out.below bw).at hs
        rw [eY] at eY'
        cases eY'
        subst eY
        obtain ⟨bo, oo, rfl, zo, d0⟩ := (H_ob3.out.below bz).at ho
        obtain ⟨x, hx⟩ : ∃ x, (s.a == (K : Int)) = x := ⟨_, rfl⟩
        rw [hx] at e4 e5
        have hN4 : N4 ≤ 20 := by
          have := selS_le (fun s => s.a == (K : Int)) (fun s => { s with a := 0 }) (ss.take j)
          rw [l4, List.length_take, H_hk.out] at this; omega
        have hN5 : N5 ≤ 20 := by
          have := sel_len (q := fun s => s.a == (K : Int)) (f := fun s => { s with a := 0 }) (l := ss.take j) (o := RW.take j) (by rw [List.length_take, List.length_take, H_hk.out, H_r2.out])
          rw [l4, l5] at this; omega
        have hne := OwnRows.ne (by decide) ow4 ow5
        generalize selS (fun s => s.a == (K : Int)) (fun s => { s with a := 0 }) (ss.take j) = L4 at *
        generalize selB (fun s => s.a == (K : Int)) (ss.take j) (RW.take j) = L5 at *
        cases x with
        | false =>
          rw [if_neg (by simp), List.append_nil] at e4 e5
          have ⟨H_e4, H_e5, H_l4, H_l5, H_ow4, H_ow5, H_bz, H_bw⟩ := hid8 e4 e5 l4 l5 ow4 ow5 bz bw; clear e4 e5 l4 l5 ow4 ow5 bz bw; have ⟨H_hs, H_ho, H_hne⟩ := hid3 hs ho hne; clear hs ho hne
          go_wp2_with fail
          go_roundw
          case rel => exact ⟨j + 1, A4, N4, c4, A5, N5, c5, by omega, rfl, rfl, by go_num, by rw [H_e4.out]; exact H_l4.out, by rw [H_e4.out]; exact H_ow4.out, by rw [H_e5.out]; exact H_l5.out, by rw [H_e5.out]; exact H_ow5.out, H_bz.out⟩
          case measure => simp [intOf]; omega
        | true =>
          rw [if_pos rfl] at e4 e5
          have ⟨H_e4, H_e5, H_l4, H_l5, H_ow4, H_ow5, H_bz, H_bw⟩ := hid8 e4 e5 l4 l5 ow4 ow5 bz bw; clear e4 e5 l4 l5 ow4 ow5 bz bw; have ⟨H_hs, H_ho, H_hne⟩ := hid3 hs ho hne; clear hs ho hne
          go_upto_region 16 with (fail)
          clear c0 c1 c2 c3'
          refine wp_region_held_drew (S := (fun W => (∀ b o, b < w0.heap.size → W.cell? ⟨b, o, none⟩ = w0.cell? ⟨b, o, none⟩) ∧ Below w0.heap.size w0 W)) (by kernel_rfl) ?_ (fun hHeld => ?_)
          · exact ext_mk H_bw.out.drew
          refine take_at (i := 0) (some 73) rfl rfl (by kernel_rfl) (fun _ _ _ h => h) (by rfl) (v := ?_) ?_ (by assumption) ?_
          rotate_left
          · intro W hSw; (try dsimp only at hSw); go_simp; (try with_reducible rfl)
          (try simp only [apz])
          refine take_at (i := 1) (some 74) rfl rfl (by kernel_rfl) (fun _ _ _ h => h) (by rfl) (v := ?_) ?_ (by assumption) ?_
          rotate_left
          · intro W hSw; (try dsimp only at hSw); go_simp; (try with_reducible rfl)
          (try simp only [apz])
          refine take_at (i := 2) (some 75) rfl rfl (by kernel_rfl) (fun _ _ _ h => h) (by rfl) (v := ?_) ?_ (by assumption) ?_
          rotate_left
          · intro W hSw; (try dsimp only at hSw); go_simp; (try with_reducible rfl)
          (try simp only [apz])
          refine take_at (i := 3) (some 76) rfl rfl (by kernel_rfl) (fun _ _ _ h => h) (by rfl) (v := ?_) ?_ (by assumption) ?_
          rotate_left
          · intro W hSw; (try dsimp only at hSw); go_simp; (try with_reducible rfl)
          (try simp only [apz])
          refine take_at (i := 4) (some 77) rfl rfl (by kernel_rfl) (fun _ _ _ h => h) (by rfl) (v := ?_) ?_ (by assumption) ?_
          rotate_left
          · intro W hSw; (try dsimp only at hSw); go_simp; (try with_reducible rfl)
          (try simp only [apz])
          refine take_at (i := 5) (some 78) rfl rfl (by kernel_rfl) (fun _ _ _ h => h) (by rfl) (v := ?_) ?_ (by assumption) ?_
          rotate_left
          · intro W hSw; (try dsimp only at hSw); go_simp; (try with_reducible rfl)
          (try simp only [apz])
          refine take_at (i := 6) (some 79) rfl rfl (by kernel_rfl) (fun _ _ _ h => h) (by rfl) (v := ?_) ?_ (by assumption) ?_
          rotate_left
          · intro W hSw; (try dsimp only at hSw); go_simp; (try with_reducible rfl)
          (try simp only [apz])
          refine take_at (i := 7) (some 80) rfl rfl (by kernel_rfl) (fun _ _ _ h => h) (by rfl) (v := ?_) ?_ (by assumption) ?_
          rotate_left
          · intro W hSw; (try dsimp only at hSw); go_simp; (try with_reducible rfl)
          (try simp only [apz])
          refine take_at (i := 8) (some 81) rfl rfl (by kernel_rfl) (fun _ _ _ h => h) (by rfl) (v := ?_) ?_ (by assumption) ?_
          rotate_left
          · intro W hSw; (try dsimp only at hSw); go_simp; (try with_reducible rfl)
          (try simp only [apz])
          refine take_at (i := 9) (some 82) rfl rfl (by kernel_rfl) (fun _ _ _ h => h) (by rfl) (v := ?_) ?_ (by assumption) ?_
          rotate_left
          · intro W hSw; (try dsimp only at hSw); go_simp; (try with_reducible rfl)
          (try simp only [apz])
          refine take_at (i := 10) (some 83) rfl rfl (by kernel_rfl) (fun _ _ _ h => h) (by rfl) (v := ?_) ?_ (by assumption) ?_
          rotate_left
          · intro W hSw; (try dsimp only at hSw); go_simp; (try with_reducible rfl)
          (try simp only [apz])
          refine take_at (i := 11) (some 84) rfl rfl (by kernel_rfl) (fun _ _ _ h => h) (by rfl) (v := ?_) ?_ (by assumption) ?_
          rotate_left
          · intro W hSw; (try dsimp only at hSw); go_simp; (try with_reducible rfl)
          (try simp only [apz])
          refine take_at (i := 12) (some 85) rfl rfl (by kernel_rfl) (fun _ _ _ h => h) (by rfl) (v := ?_) ?_ (by assumption) ?_
          rotate_left
          · intro W hSw; (try dsimp only at hSw); go_simp; (try with_reducible rfl)
          (try simp only [apz])
          refine take_at (i := 13) (some 86) rfl rfl (by kernel_rfl) (fun _ _ _ h => h) (by rfl) (v := ?_) ?_ (by assumption) ?_
          rotate_left
          · intro W hSw; (try dsimp only at hSw); go_simp; (try with_reducible rfl)
          (try simp only [apz])
          refine take_at (i := 14) (some 87) rfl rfl (by kernel_rfl) (fun _ _ _ h => h) (by rfl) (v := ?_) ?_ (by assumption) ?_
          rotate_left
          · intro W hSw; (try dsimp only at hSw); go_simp; (try with_reducible rfl)
          (try simp only [apz])
          refine take_at (i := 15) (some 88) rfl rfl (by kernel_rfl) (fun _ _ _ h => h) (by rfl) (v := ?_) ?_ (by assumption) ?_
          rotate_left
          · intro W hSw; (try dsimp only at hSw); go_simp; (try with_reducible rfl)
          (try simp only [apz])
          refine take_at (i := 16) (some 89) rfl rfl (by kernel_rfl) (fun _ _ _ h => h) (by rfl) (v := ?_) ?_ (by assumption) ?_
          rotate_left
          · intro W hSw; (try dsimp only at hSw); go_simp; (try with_reducible rfl)
          (try simp only [apz])
          refine wpAnyH_ready (rs := [17]) (by kernel_rfl) (by simp) ?_
          refine AllReadyH.cons rfl (fun K hK => ?_) AllReadyH.nil
          go_simp
          have szb := H_bw.out.size
          have bA1 : Below w0.heap.size w0 (wr.alloc (.cells #[.int .i64 0, .int .i64 s.b, .int .i64 s.c, .int .i64 s.d] 53)) := H_bw.out.alloc szb _
          have bA3 : Below w3.heap.size w3 (wr.alloc (.cells #[.int .i64 0, .int .i64 s.b, .int .i64 s.c, .int .i64 s.d] 53)) := H_bz.out.alloc szw _
          refine hK.out _ _ ?_ (fun hHeld => ?_)
          · (try dsimp only); first | exact ext_mk bA1 | exact ext_mk bA1.drew
          clear hK K
          (try simp only [apz])
          refine wpAnyH_ready (rs := [18]) (by kernel_rfl) (by simp) ?_
          refine AllReadyH.cons rfl (fun K hK => ?_) AllReadyH.nil
          refine step_app_show _ (by rfl) (.tmp 73) (.tmp 90) (by rfl) w3.heap.size A4 (some ⟨wr.heap.size, 0, none⟩) c4 1 N4 L4 ⟨0, s.b, s.c, s.d⟩ H_l4.out (by omega) (by rfl) (by rfl) (by first | exact OwnRows.alloc H_ow4.out _ | exact OwnRows.below (OwnRows.alloc H_ow4.out _) (Below.refl _ _).drew) (by first | exact shows_new wr ⟨0, s.b, s.c, s.d⟩ _ _ rfl | exact (shows_new wr ⟨0, s.b, s.c, s.d⟩ _ _ rfl).below (Below.refl _ _).drew) (by simp; omega) ?_
          intro A9 c9 w9 ow9 gr9
          have gr9' : (wr.alloc (.cells #[.int .i64 0, .int .i64 s.b, .int .i64 s.c, .int .i64 s.d] 53)).grownBy w9 (blockOf A4) := grown_then (grown_drew (grown_refl _ _)) gr9 (.inl rfl)
          have b9 : Below w3.heap.size w3 w9 := bA3.grown gr9' bA3.size (fun r e => (H_ow4.out.lt r e).1)
          have bw9 : Below w0.heap.size w0 w9 := bA1.grown gr9' bA1.size (fun r e => by have := (H_ow4.out.lt r e).1; have := H_bb3.out.size; omega)
          have ow59 : OwnB w9 w3.heap.size A5 c5 L5 := OwnRows.kept (OwnRows.alloc H_ow5.out _) gr9' H_hne.out
          have hne9 := OwnRows.ne (by decide) ow59 ow9
          refine hK.out _ _ ?_ (fun hHeld => ?_)
          · (try dsimp only); exact ext_mk bw9
          clear hK K
          (try simp only [apz])
          refine wpAnyH_ready (rs := [19]) (by kernel_rfl) (by simp) ?_
          refine AllReadyH.cons rfl (fun K hK => ?_) AllReadyH.nil
          go_simp
          refine hK.out _ _ ?_ (fun hHeld => ?_)
          · (try dsimp only); exact ext_mk bw9
          clear hK K
          (try simp only [apz])
          refine wpAnyH_done (by kernel_rfl) ?_ _
          obtain ⟨bo', oo', eo, zo9, d9⟩ := (H_ob3.out.below b9).at H_ho.out
          cases eo
          have s9 := b9.size
          have sw9 := bw9.size
          clear d0
          have ⟨H_ow9, H_gr9, H_gr9', H_b9, H_bw9, H_ow59, H_bA1, H_bA3⟩ := hid8 ow9 gr9 gr9' b9 bw9 ow59 bA1 bA3; clear ow9 gr9 gr9' b9 bw9 ow59 bA1 bA3; have H_hne9 := Lib.hid hne9; clear hne9
          go_wp2_with (at_builtin; refine wp_app_bool _ rfl (.tmp 92) (.tmp 97) rfl w3.heap.size A5 (some ⟨w9.heap.size, 0, none⟩) c5 1 N5 L5 o H_l5.out (by omega) rfl rfl (OwnRows.alloc H_ow59.out _) (bls_new w9 o _ _ rfl) (by simp; omega) ?_)
          intro A10 c10 w10 ow10 gr10
          have b10 : Below w3.heap.size w3 w10 := (H_b9.out.alloc s9 _).grown gr10 (by simp; omega) (fun r e => (H_ow59.out.lt r e).1)
          have ow90 : OwnS w10 w3.heap.size A9 c9 (L4 ++ [⟨0, s.b, s.c, s.d⟩]) := OwnRows.kept (OwnRows.alloc H_ow9.out _) gr10 H_hne9.out
          have ⟨H_ow10, H_gr10, H_b10, H_ow90⟩ := hid4 ow10 gr10 b10 ow90; clear ow10 gr10 b10 ow90
          go_wp2_with fail
          go_roundw
          case rel => exact ⟨j + 1, A9, N4 + 1, c9, A10, N5 + 1, c10, by omega, rfl, rfl, by go_num, by rw [H_e4.out, List.length_append, H_l4.out]; rfl, by rw [H_e4.out]; exact H_ow90.out, by rw [H_e5.out, List.length_append, H_l5.out]; rfl, by rw [H_e5.out]; exact H_ow10.out, H_b10.out⟩
          case measure => simp [intOf]; omega
end Go.Proofs.YtclgncaghiinhaaGreatDoor
