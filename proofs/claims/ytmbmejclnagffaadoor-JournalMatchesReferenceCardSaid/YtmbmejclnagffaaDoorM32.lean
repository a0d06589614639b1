/- Package journal: faults as an iterator. -/
import Derived.RangeFuncNested
import Derived.RangeFuncBound
import Derived.RangeFuncCalls
import Derived.RangeFuncLeaves
import Derived.Shelf.Abstract
import Derived.Shelf.RegionOpen
import Derived.WalkKit
import Derived.OwnWalkIn
import Derived.TacticsInMore
import Derived.LoopNIn
import Derived.LoopIn
import Derived.BigGuardPartIn
import Derived.Test.YtmbmejclnagffaaDoorM31
set_option linter.unusedSimpArgs false
set_option linter.unusedVariables false
set_option maxRecDepth 100000
namespace Go.Proofs.YtmbmejclnagffaaDoor
open Go.RowKit
section
attribute [local go_sem] Oper.semAt_some
/-- a round keeps what lay below a place, and all cells -/
def CKeep (n₀ : Nat) (W W' : World) : Prop := Below n₀ W W' ∧ ∀ p v, W.cell? p = some v → W'.cell? p = some v
theorem CKeep.trans {n₀ : Nat} {A B C : World} (h : CKeep n₀ A B) (k : CKeep n₀ B C) : CKeep n₀ A C := ⟨h.1.trans k.1, fun p v e => k.2 p v (h.2 p v e)⟩
theorem CKeep.book {n₀ : Nat} {w : World} (hn : n₀ ≤ w.heap.size) (W : World) (l : Nat) (o o' : Obj) (hl : w.heap.size ≤ l) (h : W.heap[l]? = some o) (hc : o.isCells = false) (hw : o.isWalk = false) : CKeep n₀ W (W.putObj l o') := by
  refine ⟨belowK_b hn W l o o' hl h hc hw, fun p v e => ?_⟩
  have hne : p.block ≠ l := by
    intro e2
    unfold World.cell? at e
    rw [e2, h] at e
    cases o <;> simp_all [Obj.isCells]
  exact (World.cell?_of_block (World.putObj_heap_other hne)).trans e
theorem AbidesFrom.below {β : Type} {B : Nat} {J : β → World → Prop} (hJ : AbidesFrom B J) {s : β} {W W' : World} (h : J s W) (hb : Below W.heap.size W W') : J s W' := hJ s W W' none h (grown_of_below hb none) (fun r e => by cases e)
theorem okL_drop {party : Int} {l : List Msg} {k : Nat} {L : Int} {m : Msg} (h : l[k]? = some m) : okL party k L (l.drop k) = ((msgB m && decide (m.p = party) && decide (m.s = (k : Int) + 1) && decide (L ≤ m.t)) && okL party (k + 1) m.t (l.drop (k + 1))) := by
  obtain ⟨hk, rfl⟩ := List.getElem?_eq_some_iff.1 h
  rw [List.drop_eq_getElem_cons hk, okL]
set_option maxRecDepth 100000 in
set_option maxHeartbeats 16000000 in
theorem jfaults1_in (n : Nat) (hn : 1 ≤ n) (l BL BP : Nat) (A : Option Addr) (cp N : Nat) (ms : List Msg) (party : Int) (hN : ms.length = N) (hN5 : N ≤ 5000) (J Jx : List Nat → World → Prop) (w W : World) (hW : Below w.heap.size w W)
    (hJ : AbidesFrom W.heap.size J)
    (hY : ∀ pre x W1, J pre W1 → pre.length < N → YieldAt Fence.wide (n - 1) Tryd.prog l #[.int .i64 (x : Nat)] W1 fun e W' =>
      (e = .returned (.bool true) ∧ J (pre ++ [x]) W' ∧ CKeep w.heap.size W1 W') ∨ (e = .returned (.bool false) ∧ Jx (pre ++ [x]) W'))
    (hl : Msgs w A ms) (hc : Cnt w) (zL : BL < w.heap.size) (zP : BP < w.heap.size) (cL : w.cell? ⟨BL, 0, none⟩ = some (.slice A N cp)) (cP : w.cell? ⟨BP, 0, none⟩ = some (.int .i64 party)) (h0 : J [] W) :
    CallsIn Fence.wide n Tryd.prog 72 #[.func (.yield l) #[] #[], .pointer (some ⟨BL, 0, none⟩), .pointer (some ⟨BP, 0, none⟩)] W fun e W' => (∃ v, e = .returned v) ∧
      ((∃ ys, (ys = [] → okL party 0 0 ms = true) ∧ J ys W') ∨ (∃ pre, okL party 0 0 ms = false ∧ Jx pre W')) := by
  have cL1 := (hW.cell (p := ⟨BL, 0, none⟩) zL).trans cL
  have szW := hW.size
  have ⟨H_hJ, H_hY, H_hl, H_hc, H_cL, H_cP, H_hN, H_hW⟩ := hid8 hJ hY hl hc cL cP hN hW; clear hJ hY hl hc cL cP hN hW; have H_h0 := Lib.hid h0; clear h0
  refine callsIn_wide.2 ?_
  go_enter Tryd.func72, Tryd.ntmps72
  go_upto_region 2 with (fail)
  go_loopw [4, 9] (fun t i wr => ∃ (k : Nat) (L : Int) (pre : List Nat), k ≤ N ∧ i = .int .i64 k ∧ t = .int .i64 L ∧ ((pre = [] ∧ okL party 0 0 ms = okL party k L (ms.drop k)) ∨ (pre ≠ [] ∧ okL party 0 0 ms = false)) ∧ pre.length ≤ k ∧ J pre wr ∧ Below w.heap.size w wr) (fun _ i _ => N - (intOf i).toNat)
  case atStart => exact ⟨0, 0, [], by omega, rfl, rfl, .inl ⟨rfl, rfl⟩, by simp, H_h0.out, H_hW.out⟩
  case round =>
    obtain ⟨k, L, pre, hk, rfl, rfl, hok, hpre, hJr, bz⟩ := hrel
    have sz := bz.size
    have cPr := (bz.cell (p := ⟨BP, 0, none⟩) zP).trans H_cP.out
    by_cases hlt : k < N
    · have g1 : (k : Int) < (N : Int) := by omega
      have g0 : (0 : Int) ≤ (k : Int) := by omega
      have hk9 : (k : Int) < 100000 := by omega
      obtain ⟨m, hm5⟩ : ∃ m, ms[k]? = some m := ⟨_, List.getElem?_eq_getElem (by rw [H_hN.out]; exact hlt)⟩
      obtain ⟨b, off, hA, hbl, ⟨hf, hmc, hmi⟩, c0, c1, c2, c3, c4⟩ := (H_hl.out.below bz).at hm5
      subst hA
      have hokm := okL_drop (party := party) (L := L) hm5
      have q := fun W h1 h2 => jright_any m hf W h1 h2
      have e0 : m.cells.toArray = #[.int .i64 m.p, .int .i64 m.s, .int .i64 m.t, .int .i64 m.k, .slice m.A m.a.length m.c] := rfl
      rw [e0] at q
      clear e0
      have cnt := H_hc.out.below bz
      have fs := hf.s
      obtain ⟨mp, hmp⟩ : ∃ x, m.p = x := ⟨_, rfl⟩
      obtain ⟨mq, hms⟩ : ∃ x, m.s = x := ⟨_, rfl⟩
      obtain ⟨mt, hmt⟩ : ∃ x, m.t = x := ⟨_, rfl⟩
      obtain ⟨R, hR⟩ : ∃ x, msgB m = x := ⟨_, rfl⟩
      rw [hmp, hms, hmt, hR] at hokm
      rw [hmp, hms, hmt] at q
      rw [hR] at q
      rw [hmp] at c0
      rw [hms] at c1 fs
      rw [hmt] at c2
      generalize m.a.length = a at *
      generalize m.k = mk at *
      generalize hmA : m.A = mA at *
      generalize m.c = mc at *
      generalize hma : m.a = ma at *
      have ⟨H_hm5, H_hf, H_hmi, H_hmp, H_hms, H_hmt, H_hR, H_hma⟩ := hid8 hm5 hf hmi hmp hms hmt hR hma; clear hm5 hf hmi hmp hms hmt hR hma; have ⟨H_hmA, H_q, H_hokm, H_hok, H_hpre, H_hJr, H_bz, H_cnt⟩ := hid8 hmA q hokm hok hpre hJr bz cnt; clear hmA q hokm hok hpre hJr bz cnt
      go_upto_region 4 with (fail)
      obtain ⟨w2, hw2⟩ : ∃ W, wr.alloc (.cells #[.int .i64 mp, .int .i64 mq, .int .i64 mt, .int .i64 mk, .slice mA a mc] 47) = W := ⟨_, rfl⟩
      rw [hw2]
      have c2' : Below wr.heap.size wr w2 := by rw [← hw2]; exact (Below.refl _ _).alloc (Nat.le_refl _) _
      have y2 : Blk w2 wr.heap.size #[.int .i64 mp, .int .i64 mq, .int .i64 mt, .int .i64 mk, .slice mA a mc] := by rw [← hw2]; exact blk_new rfl
      have mi2 := H_hmi.out.below c2'
      have cnt2 := H_cnt.out.below c2'
      have bz2 := H_bz.out.trans (c2'.mono sz)
      have J2 := AbidesFrom.below H_hJ.out H_hJr.out c2'
      have s2 := c2'.size
      clear c0 c1 c2 c3 c4 cPr
      have ⟨H_hw2, H_c2', H_y2, H_mi2, H_bz2, H_cnt2, H_J2⟩ := hid7 hw2 c2' y2 mi2 bz2 cnt2 J2; clear hw2 c2' y2 mi2 bz2 cnt2 J2
      have v0 := (H_y2.out 0 _ rfl).at
      have v1 := (H_y2.out 1 _ rfl).at
      have v2 := (H_y2.out 2 _ rfl).at
      have v3 := (H_y2.out 3 _ rfl).at
      have v4 := (H_y2.out 4 _ rfl).at
      have ly := (H_y2.out 0 _ rfl).lt
      have eR := H_hokm.out
      have wk : IntKind.i64.wrap ((k : Int) + 1) = (k : Int) + 1 := IntWalk.i64_in _ (by omega)
      refine (wpIn_wide (n := n)).1 ?_
      gi_wp2_with fail
      refine ⟨trivial, ?_⟩
      (with_reducible refine CallsIn.mono ((callsIn_wide (n := n - 1)).2 (H_q.out _ H_mi2.out H_cnt2.out)) ?_)
      rintro e w3 ⟨rfl, b3⟩
      have bz3 := H_bz2.out.trans (b3.mono H_bz2.out.size)
      have J3 := AbidesFrom.below H_hJ.out H_J2.out b3
      have y3 := H_y2.out.below b3
      have s3 := b3.size
      have cP3 := (bz3.cell (p := ⟨BP, 0, none⟩) zP).trans H_cP.out
      have hlen : pre.length < N := by have := H_hpre.out; omega
      obtain ⟨fn, tmps, assign, body, hy, hRn⟩ := H_hY.out pre k w3 J3 hlen
      (try dsimp only at hy)
      clear v0 v1 v2 v3 v4
      have ⟨H_bz3, H_J3, H_y3, H_b3, H_hRn⟩ := hid5 bz3 J3 y3 b3 hRn; clear bz3 J3 y3 b3 hRn
      have v0 := (H_y3.out 0 _ rfl).at
      have v1 := (H_y3.out 1 _ rfl).at
      have v2 := (H_y3.out 2 _ rfl).at
      have v3 := (H_y3.out 3 _ rfl).at
      have v4 := (H_y3.out 4 _ rfl).at
      cases R with
      | false =>
        have bad : okL party 0 0 ms = false := by
          rcases H_hok.out with ⟨_, e⟩ | ⟨_, e⟩
          · rw [e, eR]; simp []
          · exact e
        have ⟨H_bad, H_eR⟩ := hid2 bad eR; clear bad eR
        gi_wp2_with fail
        refine H_hRn.out.mono ?_
        rintro e w4 (⟨rfl, J4, k4⟩ | ⟨rfl, Jx4⟩)
        · have v24 := k4.2 _ _ v2
          have bz4 := H_bz3.out.trans k4.1
          have ⟨H_J4, H_k4, H_bz4⟩ := hid3 J4 k4 bz4; clear J4 k4 bz4
          gi_wp2_with fail
          go_wp2_with fail
          go_roundw
          case rel => exact ⟨k + 1, mt, pre ++ [k], by omega, by go_num, rfl, .inr ⟨by simp, H_bad.out⟩, by have := H_hpre.out; simp; omega, H_J4.out, H_bz4.out⟩
          case measure => simp [intOf]; omega
        · gi_wp2_with fail
          go_wp2_with fail
          refine bodyPost_ret (results_none rfl _ _ _) rfl ?_
          exact ⟨⟨_, rfl⟩, .inr ⟨_, H_bad.out, Jx4⟩⟩
      | true =>
      by_cases h1 : mp = party
      rotate_left
      · have h1a : (mp == party) = false := by simp [h1]
        have h1b : (mp != party) = true := by simp [h1]
        have bad : okL party 0 0 ms = false := by
          rcases H_hok.out with ⟨_, e⟩ | ⟨_, e⟩
          · rw [e, eR]; simp [h1]
          · exact e
        have ⟨H_bad, H_eR⟩ := hid2 bad eR; clear bad eR
        gi_wp2_with fail
        refine H_hRn.out.mono ?_
        rintro e w4 (⟨rfl, J4, k4⟩ | ⟨rfl, Jx4⟩)
        · have v24 := k4.2 _ _ v2
          have bz4 := H_bz3.out.trans k4.1
          have ⟨H_J4, H_k4, H_bz4⟩ := hid3 J4 k4 bz4; clear J4 k4 bz4
          gi_wp2_with fail
          go_wp2_with fail
          go_roundw
          case rel => exact ⟨k + 1, mt, pre ++ [k], by omega, by go_num, rfl, .inr ⟨by simp, H_bad.out⟩, by have := H_hpre.out; simp; omega, H_J4.out, H_bz4.out⟩
          case measure => simp [intOf]; omega
        · gi_wp2_with fail
          go_wp2_with fail
          refine bodyPost_ret (results_none rfl _ _ _) rfl ?_
          exact ⟨⟨_, rfl⟩, .inr ⟨_, H_bad.out, Jx4⟩⟩
      have h1s := h1.symm
      subst h1s
      by_cases h2 : mq = (k : Int) + 1
      rotate_left
      · have h2a : (mq == (k : Int) + 1) = false := by simp [h2]
        have h2b : (mq != (k : Int) + 1) = true := by simp [h2]
        have bad : okL party 0 0 ms = false := by
          rcases H_hok.out with ⟨_, e⟩ | ⟨_, e⟩
          · rw [e, eR]; simp [h2]
          · exact e
        have ⟨H_bad, H_eR⟩ := hid2 bad eR; clear bad eR
        gi_wp2_with fail
        refine H_hRn.out.mono ?_
        rintro e w4 (⟨rfl, J4, k4⟩ | ⟨rfl, Jx4⟩)
        · have v24 := k4.2 _ _ v2
          have bz4 := H_bz3.out.trans k4.1
          have ⟨H_J4, H_k4, H_bz4⟩ := hid3 J4 k4 bz4; clear J4 k4 bz4
          gi_wp2_with fail
          go_wp2_with fail
          go_roundw
          case rel => exact ⟨k + 1, mt, pre ++ [k], by omega, by go_num, rfl, .inr ⟨by simp, H_bad.out⟩, by have := H_hpre.out; simp; omega, H_J4.out, H_bz4.out⟩
          case measure => simp [intOf]; omega
        · gi_wp2_with fail
          go_wp2_with fail
          refine bodyPost_ret (results_none rfl _ _ _) rfl ?_
          exact ⟨⟨_, rfl⟩, .inr ⟨_, H_bad.out, Jx4⟩⟩
      have h2a : (mq == (k : Int) + 1) = true := by simp [h2]
      have h2b : (mq != (k : Int) + 1) = false := by simp [h2]
      by_cases h3 : mt < L
      · have h3a : decide (mt < L) = true := decide_eq_true h3
        have h3b : ¬ L ≤ mt := by omega
        have bad : okL party 0 0 ms = false := by
          rcases H_hok.out with ⟨_, e⟩ | ⟨_, e⟩
          · rw [e, eR]; simp [h2, h3b]
          · exact e
        have ⟨H_bad, H_eR⟩ := hid2 bad eR; clear bad eR
        gi_wp2_with fail
        refine H_hRn.out.mono ?_
        rintro e w4 (⟨rfl, J4, k4⟩ | ⟨rfl, Jx4⟩)
        · have v24 := k4.2 _ _ v2
          have bz4 := H_bz3.out.trans k4.1
          have ⟨H_J4, H_k4, H_bz4⟩ := hid3 J4 k4 bz4; clear J4 k4 bz4
          gi_wp2_with fail
          go_wp2_with fail
          go_roundw
          case rel => exact ⟨k + 1, mt, pre ++ [k], by omega, by go_num, rfl, .inr ⟨by simp, H_bad.out⟩, by have := H_hpre.out; simp; omega, H_J4.out, H_bz4.out⟩
          case measure => simp [intOf]; omega
        · gi_wp2_with fail
          go_wp2_with fail
          refine bodyPost_ret (results_none rfl _ _ _) rfl ?_
          exact ⟨⟨_, rfl⟩, .inr ⟨_, H_bad.out, Jx4⟩⟩
      · have h3a : decide (mt < L) = false := decide_eq_false h3
        have h3b : L ≤ mt := by omega
        have good : (pre = [] ∧ okL party 0 0 ms = okL party (k + 1) mt (ms.drop (k + 1))) ∨ (pre ≠ [] ∧ okL party 0 0 ms = false) := by
          rcases H_hok.out with ⟨e0, e⟩ | e
          · exact .inl ⟨e0, by rw [e, eR]; simp [h2, h3b]⟩
          · exact .inr e
        have ⟨H_good, H_eR⟩ := hid2 good eR; clear good eR
        clear hy
        dsimp only
        repeat (first | gi_guarded | gi_step | go_values | gi_upon)
        refine ⟨fun _ _ => trivial, ?_⟩
        gi_wp2_with fail
        go_wp2_with fail
        go_roundw
        case rel => exact ⟨k + 1, mt, pre, by omega, by go_num, rfl, H_good.out, by have := H_hpre.out; omega, H_J3.out, H_bz3.out⟩
        case measure => simp [intOf]; omega
    · have hkN : k = N := by omega
      have hend : pre = [] → okL party 0 0 ms = true := fun e => by
        rcases hok with ⟨_, e2⟩ | ⟨e2, _⟩
        · rw [e2, List.drop_eq_nil_of_le (by rw [H_hN.out]; omega)]; rfl
        · exact absurd e e2
      have g1 : ¬ (k : Int) < (N : Int) := by omega
      have ⟨H_hok, H_hJr, H_bz, H_hend⟩ := hid4 hok hJr bz hend; clear hok hJr bz hend
      go_wp2_with fail
      go_end0
      exact ⟨⟨_, rfl⟩, .inl ⟨_, H_hend.out, H_hJr.out⟩⟩
end
end Go.Proofs.YtmbmejclnagffaaDoor
