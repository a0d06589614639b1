/- Opening arguments: locks, showings. -/
import Derived.BigQuiet
import Derived.Test.YtclgncaghiinhaaGreatDoorU10
import Derived.Test.YtclgncaghiinhaaGreatDoorU17
import Derived.Test.YtclgncaghiinhaaGreatDoorU36
set_option linter.unusedSimpArgs false
set_option linter.unusedVariables false
set_option maxRecDepth 100000
namespace Go.Proofs.YtclgncaghiinhaaGreatDoor
open Go.RowKit
structure LkP.Arg (P : LkP) (w : World) : Prop where
 x : SlotArg w P.A P.L.x.l.length P.p P.L.x
 y : SlotArg w P.B P.L.y.l.length P.r P.L.y
def LkpArg (w : World) (cs : List Value) (P : LkP) : Prop := cs = P.cells ∧ P.Arg w
/-- locks that came in, of any size -/
def LocksArg (w : World) (A : Option Addr) (Ps : List LkP) : Prop := RowsAt 12 LkpArg w A Ps
theorem LocksArg.below {w w' : World} {A : Option Addr} {Ps : List LkP} (h : LocksArg w A Ps) (hb : Below w.heap.size w w') : LocksArg w' A Ps := fun i z hz => by
 obtain ⟨b, off, cs, e, hlt, hl, hc, ha⟩ := h i z hz
 exact ⟨b, off, cs, e, Nat.lt_of_lt_of_le hlt hb.size, hl, fun j hj => (hb.cell (p := ⟨b, off + (i * 12 + j), none⟩) hlt).trans (hc j hj), ha.1, ⟨ha.2.x.below hb, ha.2.y.below hb⟩⟩
theorem LocksArg.at {w : World} {A : Option Addr} {Ps : List LkP} (h : LocksArg w A Ps) {i : Nat} {P : LkP} (hi : Ps[i]? = some P) : ∃ b off, A = some ⟨b, off, none⟩ ∧ b < w.heap.size ∧ P.Arg w ∧ ∀ j v, P.cells[j]? = some v → w.cell? ⟨b, off + i * 12 + j, none⟩ = some v := by
 obtain ⟨b, off, cs, e, hlt, hl, hc, rfl, ha⟩ := h i P hi
 refine ⟨b, off, e, hlt, ha, fun j v hj => ?_⟩
 rw [Nat.add_assoc, hc j ?_]
 ·exact hj
 ·rcases Nat.lt_or_ge j 12 with h1 | h1
  ·exact h1
  ·rw [List.getElem?_eq_none (by rw [LkP.len]; exact h1)] at hj; cases hj
def few1 (P : LkP) : Bool := len40B P.L.x.l.length && len40B P.L.y.l.length
def fewL (Ps : List LkP) : Bool := Ps.all few1
def fewD (Ps : List LkP) (n m k : Nat) : Bool := fewL (Ps.take 10) && (decide (n ≤ 10) && decide (m ≤ 20) && decide (k ≤ 20))
theorem fewL_drop {Ps : List LkP} {k : Nat} {P : LkP} (h : Ps[k]? = some P) : fewL (Ps.drop k) = (few1 P && fewL (Ps.drop (k + 1))) := by
 obtain ⟨hk, rfl⟩ := List.getElem?_eq_some_iff.1 h
 rw [List.drop_eq_getElem_cons hk]; rfl
set_option maxHeartbeats 8000000 in
theorem rdfew_any (A : Option Addr) (cp n : Nat) (Ps : List LkP) (X : Option Addr) (cx m : Nat) (Y : Option Addr) (cy k : Nat) (w : World) (hn : Ps.length = n) (hn9 : n ≤ 9223372036854775807) (hm9 : m ≤ 9223372036854775807) (hk9 : k ≤ 9223372036854775807) (hl : LocksArg w A Ps) :
  Calls Tryz.prog 8 #[.slice A n cp, .slice X m cx, .slice Y k cy] w fun e w' => e = .returned (.bool (fewD Ps n m k)) ∧ Below w.heap.size w w' := by
 obtain ⟨M, hM⟩ : ∃ M, (Ps.take 10).length = M := ⟨_, rfl⟩
 have hM2 : M = min 10 n := by rw [← hM, List.length_take, hn]
 have eD : fewD Ps n m k = (fewL (Ps.take 10) && (decide (n ≤ 10) && decide (m ≤ 20) && decide (k ≤ 20))) := rfl
 generalize fewD Ps n m k = R at *
 have h0 : R = (fewL ((Ps.take 10).drop 0) && (decide (n ≤ 10) && decide (m ≤ 20) && decide (k ≤ 20))) := by rw [List.drop_zero]; exact eD
 have ⟨Hhl, Hhn, HhM, HeD, Hh0⟩ := hid5 hl hn hM eD h0; clear hl hn hM eD h0
 go_enter Tryz.func8, Tryz.ntmps8
 go_wp2_with fail
 go_loopw [7] (fun i wr => ∃ (j : Nat), j ≤ M ∧ i = .int .i64 j ∧ R = (fewL ((Ps.take 10).drop j) && (decide (n ≤ 10) && decide (m ≤ 20) && decide (k ≤ 20))) ∧ Below w.heap.size w wr) (fun i _ => M - (intOf i).toNat)
 case atStart => exact ⟨0, by omega, rfl, Hh0.out, Below.refl _ _⟩
 case round =>
  obtain ⟨j, hj, rfl, hRk, hb⟩ := hrel
  by_cases hlt : j < M
  ·obtain ⟨⟨L, A2, p, B, r⟩, hP⟩ : ∃ P, Ps[j]? = some P := ⟨_, List.getElem?_eq_getElem (by rw [Hhn.out]; omega)⟩
   have hP2 : (Ps.take 10)[j]? = some ⟨L, A2, p, B, r⟩ := by rw [List.getElem?_take_of_lt (by omega)]; exact hP
   obtain ⟨b, off, rfl, hbl, hok, hcell⟩ := (Hhl.out.below hb).at hP
   rw [fewL_drop hP2] at hRk
   have lq := hok.x.room; have lm := hok.x.max; have lq' := hok.y.room; have lm' := hok.y.max
   dsimp only at lq lm lq' lm'
   have q := rlfew_any L A2 L.x.l.length p B L.y.l.length r wr (by omega) (by omega)
   have c0 := hcell 0 _ rfl; have c1 := hcell 1 _ rfl; have c2 := hcell 2 _ rfl; have c3 := hcell 3 _ rfl; have c4 := hcell 4 _ rfl; have c5 := hcell 5 _ rfl; have c6 := hcell 6 _ rfl; have c7 := hcell 7 _ rfl; have c8 := hcell 8 _ rfl; have c9 := hcell 9 _ rfl; have c10 := hcell 10 _ rfl; have c11 := hcell 11 _ rfl
   simp only [Nat.add_zero] at c0
   clear hcell hok lq lm lq' lm'
   unfold Lk.cells at q
   have e1 : few1 ⟨L, A2, p, B, r⟩ = (len40B L.x.l.length && len40B L.y.l.length) := rfl
   rw [e1] at hRk
   clear e1
   dsimp only at c0 c1 c2 c3 c4 c5 c6 c7 c8 c9 c10 c11
   generalize (len40B L.x.l.length && len40B L.y.l.length) = X at *
   have g1 : (j : Int) < (n : Int) := by omega
   have g0 : (0 : Int) ≤ (j : Int) := by omega
   have g2 : (j : Int) < 10 := by omega
   have g3 : decide ((j : Int) < (n : Int)) = true := decide_eq_true g1
   have g4 : decide ((j : Int) < 10) = true := decide_eq_true g2
   have hs := hb.size
   have ⟨Hq, HhRk, HhP, HhP2, Hhb⟩ := hid5 q hRk hP hP2 hb; clear q hRk hP hP2 hb
   go_wp2_with fail
   refine Hq.out.mono ?_
   rintro e w2 ⟨rfl, b2⟩
   have bb := Hhb.out.trans (b2.mono hs)
   clear c0 c1 c2 c3 c4 c5 c6 c7 c8 c9 c10 c11
   have ⟨Hb2, Hbb⟩ := hid2 b2 bb; clear b2 bb
   cases X with
   | true =>
    go_wp2_with fail
    go_roundw
    case rel => exact ⟨j + 1, by omega, by go_num, by rw [HhRk.out, Bool.true_and], Hbb.out⟩
    case measure => simp [intOf]; omega
   | false =>
    go_wp2_with fail
    go_ret
    exact ⟨ret_bool (by rw [HhRk.out]; rfl), Hbb.out⟩
  ·have e1 : (Ps.take 10).drop j = [] := List.drop_eq_nil_of_le (by rw [HhM.out]; omega)
   rw [e1] at hRk
   have e2 : R = (decide (n ≤ 10) && decide (m ≤ 20) && decide (k ≤ 20)) := by rw [hRk]; rfl
   clear hRk
   obtain ⟨y1, h1⟩ : ∃ x, decide (n ≤ 10) = x := ⟨_, rfl⟩
   obtain ⟨y2, h2⟩ : ∃ x, decide (m ≤ 20) = x := ⟨_, rfl⟩
   obtain ⟨y3, h3⟩ : ∃ x, decide (k ≤ 20) = x := ⟨_, rfl⟩
   have i1 : decide ((n : Int) ≤ 10) = y1 := by rw [← h1]; exact decide_eq_decide.2 (by omega)
   have i2 : decide ((m : Int) ≤ 20) = y2 := by rw [← h2]; exact decide_eq_decide.2 (by omega)
   have i3 : decide ((k : Int) ≤ 20) = y3 := by rw [← h3]; exact decide_eq_decide.2 (by omega)
   rw [h1, h2, h3] at e2
   have ⟨Hhb, He1, He2, Hh1, Hh2, Hh3⟩ := hid6 hb e1 e2 h1 h2 h3; clear hb e1 e2 h1 h2 h3
   by_cases hjn : j < n
   ·have g1 : (j : Int) < (n : Int) := by omega
    have g2 : ¬ (j : Int) < 10 := by omega
    have g3 : decide ((j : Int) < (n : Int)) = true := decide_eq_true g1
    have g4 : decide ((j : Int) < 10) = false := decide_eq_false g2
    cases y1 <;> cases y2
    all_goals
     go_wp2_with fail
     go_ret
     exact ⟨ret_bool (by rw [He2.out]; simp), Hhb.out⟩
   ·have g1 : ¬ (j : Int) < (n : Int) := by omega
    have g3 : decide ((j : Int) < (n : Int)) = false := decide_eq_false g1
    cases y1 <;> cases y2
    all_goals
     go_wp2_with fail
     go_ret
     exact ⟨ret_bool (by rw [He2.out]; simp), Hhb.out⟩
set_option maxHeartbeats 4000000 in
theorem rdbools_any (A : Option Addr) (cp n : Nat) (a : List Bool) (B : Option Addr) (cq m : Nat) (b : List Bool) (w : World) (hn : a.length = n) (hm : b.length = m) (hn9 : n ≤ 9223372036854775807) (hm9 : m ≤ 9223372036854775807) (ha : Bls w A a) (hb : Bls w B b) :
    Calls Tryz.prog 12 #[.slice A n cp, .slice B m cq] w fun e w' => e = .returned (.bool (decide (a = b))) ∧ Below w.heap.size w w' := by
  by_cases hnm : n = m
  rotate_left
  · have e1 : decide (a = b) = false := decide_eq_false (fun h => hnm (by rw [← hn, ← hm, h]))
    have g1 : ¬ ((n : Int) = (m : Int)) := by omega
    have g2 : ((n : Int) != (m : Int)) = true := by simp; omega
    have g3 : ((n : Int) == (m : Int)) = false := by simp; omega
    rw [e1]
    have ⟨Hha, Hhb, Hhn, Hhm, He1⟩ := hid5 ha hb hn hm e1; clear ha hb hn hm e1
    go_enter Tryz.func12, Tryz.ntmps12
    go_wp2_with fail
    go_ret
    exact ⟨rfl, Below.refl _ _⟩
  subst hnm
  obtain ⟨R, hR⟩ : ∃ R, decide (a = b) = R := ⟨_, rfl⟩
  rw [hR]
  have ⟨Hha, Hhb, Hhn, Hhm, HhR⟩ := hid5 ha hb hn hm hR; clear ha hb hn hm hR
  go_enter Tryz.func12, Tryz.ntmps12
  go_wp2_with fail
  go_loopw [5] (fun i wr => ∃ (j : Nat), j ≤ n ∧ i = .int .i64 j ∧ a.take j = b.take j ∧ Below w.heap.size w wr) (fun i _ => n - (intOf i).toNat)
  case atStart => exact ⟨0, by omega, rfl, by simp, Below.refl _ _⟩
  case round =>
    obtain ⟨j, hj, rfl, hjk, hbw⟩ := hrel
    by_cases hlt : j < n
    · obtain ⟨x, hx⟩ : ∃ x, a[j]? = some x := ⟨_, List.getElem?_eq_getElem (by rw [Hhn.out]; exact hlt)⟩
      obtain ⟨y, hy⟩ : ∃ y, b[j]? = some y := ⟨_, List.getElem?_eq_getElem (by rw [Hhm.out]; exact hlt)⟩
      obtain ⟨b1, o1, rfl, z1, c1⟩ := (Hha.out.below hbw).at hx
      obtain ⟨b2, o2, rfl, z2, c2⟩ := (Hhb.out.below hbw).at hy
      have g1 : (j : Int) < (n : Int) := by omega
      have g0 : (0 : Int) ≤ (j : Int) := by omega
      by_cases hxy : x = y
      · subst hxy
        have hj2 : a.take (j + 1) = b.take (j + 1) := by rw [List.take_add_one, List.take_add_one, hx, hy, hjk]
        have ⟨Hhbw, Hhjk, Hhx, Hhy, Hhj2⟩ := hid5 hbw hjk hx hy hj2; clear hbw hjk hx hy hj2
        cases x
        all_goals
          go_upto_region 6 with (fail)
          go_quiet (fail)
          go_wp2_with fail
          go_roundw
          case rel => exact ⟨j + 1, by omega, by go_num, Hhj2.out, by first | exact Hhbw.out | exact Hhbw.out.drew | (have := Hhbw.out; exact belt)⟩
          case measure => simp [intOf]; omega
      · have e1 : R = false := by
          rw [← HhR.out]
          refine decide_eq_false fun e => hxy ?_
          rw [e, hy] at hx
          exact (Option.some.inj hx).symm
        have ⟨Hhbw, Hhjk, Hhx, Hhy, He1⟩ := hid5 hbw hjk hx hy e1; clear hbw hjk hx hy e1
        cases x <;> cases y
        all_goals first | exact absurd rfl hxy | skip
        all_goals
          go_upto_region 6 with (fail)
          go_quiet (fail)
          go_wp2_with fail
          go_ret
          exact ⟨ret_bool He1.out.symm, by first | exact Hhbw.out | exact Hhbw.out.drew | (have := Hhbw.out; exact belt)⟩
    · have e1 : R = true := by
        rw [← HhR.out]
        rw [List.take_of_length_le (by rw [Hhn.out]; omega), List.take_of_length_le (by rw [Hhm.out]; omega)] at hjk
        exact decide_eq_true hjk
      have g1 : ¬ (j : Int) < (n : Int) := by omega
      have ⟨Hhbw, Hhjk, He1⟩ := hid3 hbw hjk e1; clear hbw hjk e1
      go_wp2_with fail
      go_ret
      exact ⟨ret_bool He1.out.symm, Hhbw.out⟩
section
open Go.RowKit Go.ChangeShapes Go.WideShapes Go.ChangeAt
theorem read_sh4 {H : Type} {enc : TypeId × Value → H} {W : World} {held : Bool} (fuel : Nat) (cs : List Value) (x : DataW H × List MemPlace) (hl : cs.length = 4) (h : DataW.trod enc Tryz.prog W 0 (fun _ => true) held fuel 53 cs = some x) : ∃ z, Sh4At W cs z := by
 have e4 : Tryz.prog.cellsOf 3 = 1 := by kernel_rfl
 obtain ⟨xs, m, _, _, _, hlen, hg⟩ := DataW.trod_array Tryz.underlying53 h
 match xs, hlen, cs, hl with
 | [y0, y1, y2, y3], _, [c0, c1, c2, c3], _ =>
  have g0 := hg 0 (by omega)
  have g1 := hg 1 (by omega)
  have g2 := hg 2 (by omega)
  have g3 := hg 3 (by omega)
  simp [e4] at g0 g1 g2 g3
  obtain ⟨a0, rfl, w0⟩ := read_int Tryz.underlying3 g0
  obtain ⟨a1, rfl, w1⟩ := read_int Tryz.underlying3 g1
  obtain ⟨a2, rfl, w2⟩ := read_int Tryz.underlying3 g2
  obtain ⟨a3, rfl, w3⟩ := read_int Tryz.underlying3 g3
  exact ⟨⟨a0, a1, a2, a3⟩, rfl⟩
theorem open_shows {H : Type} {enc : TypeId × Value → H} {W : World} {base : Nat} {held : Bool} {v : Value} {d : DataW H} {p : List MemPlace} (hv : Value.okWide Tryz.prog W .any base 24 v) (h : DataW.Trod enc Tryz.prog W 0 (fun _ => true) held 24 v d p) :
  ∃ A c l, v = .slice A l.length c ∧ Shows W A l ∧ l.length ≤ c ∧ c ≤ maxLen := by
 obtain ⟨a0, len, cap, rfl⟩ := okWide_slice Tryz.underlying24 hv
 obtain ⟨fuel, hf⟩ := h
 exact read_rows (by decide) Tryz.underlying24 (by kernel_rfl) read_sh4 hf
end
end Go.Proofs.YtclgncaghiinhaaGreatDoor
