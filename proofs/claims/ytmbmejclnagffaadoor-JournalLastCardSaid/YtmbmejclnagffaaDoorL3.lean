/- Two new blocks; a map of the integers of a list. -/
import Derived.Test.YtmbmejclnagffaaDoorChecked
import Derived.WalkKit
import Derived.WalkSpells
import Derived.WalkLawsBesides
import Derived.Deep.QuietTactic
import Derived.BigQuiet
import Derived.BigGuardPart
import Derived.Lib.Hide
import Derived.Below
import Derived.IntWalk
import Derived.Laws.Rows
import Derived.OneCell
import Derived.Outline
import Derived.Deep.RegionHeld3
import Derived.Deep.RegionWith
import Derived.Maps.AppendAt
import Derived.Deep.AppendLies
import Derived.Laws.OwnMore
import Derived.OwnWalk
import Derived.Lib.SlBytesConst
import Derived.ProofKit
import Derived.OpenShut
import Derived.ChangeOld
import Derived.Deep.Matrix
import Derived.DataShut
import Derived.SizedLaws
import Derived.Deep.Slices
import Derived.Deep.CutRange
import Derived.Shelf.Strconv.Itoa0
import Derived.Shelf.Strconv.Itoa1
import Derived.Shelf.LaysM
import Derived.Shelf.Strconv.Itoa2
import Derived.Shelf.Strconv.Itoa3
import Derived.Ground.Names2Prog
import Derived.Shelf.Slices.Clone
import Derived.Test.YtmbmejclnagffaaDoorProg
import Derived.Lib.AppendIntMem
import Derived.Lib.OthersKept
import Derived.RangeFuncNested
import Derived.RangeFuncBound
import Derived.RangeFuncCalls
import Derived.RangeFuncLeaves
import Derived.Shelf.Abstract
import Derived.Shelf.RegionOpen
import Derived.OwnWalkIn
import Derived.TacticsInMore
import Derived.LoopNIn
import Derived.LoopIn
import Derived.BigGuardPartIn
import Derived.DeepKeys
import Derived.Deep.Cut
import Derived.Lib.SmallJoins
import Derived.Maps.OwnSet
import Derived.Maps.OwnOps
import Derived.Test.YtmbmejclnagffaaDoorM1
import Derived.Test.YtmbmejclnagffaaDoorM2
import Derived.Test.YtmbmejclnagffaaDoorM3
import Derived.Test.YtmbmejclnagffaaDoorM4
import Derived.Test.YtmbmejclnagffaaDoorM5
import Derived.Test.YtmbmejclnagffaaDoorM6
import Derived.Test.YtmbmejclnagffaaDoorM7
import Derived.Test.YtmbmejclnagffaaDoorM8
import Derived.Test.YtmbmejclnagffaaDoorM9
import Derived.Test.YtmbmejclnagffaaDoorM10
import Derived.Test.YtmbmejclnagffaaDoorM11
import Derived.Test.YtmbmejclnagffaaDoorM12
import Derived.Test.YtmbmejclnagffaaDoorM13
import Derived.Test.YtmbmejclnagffaaDoorM14
import Derived.Test.YtmbmejclnagffaaDoorM15
import Derived.Test.YtmbmejclnagffaaDoorM16
import Derived.Test.YtmbmejclnagffaaDoorM17
import Derived.Test.YtmbmejclnagffaaDoorM18
import Derived.Test.YtmbmejclnagffaaDoorM19
import Derived.Test.YtmbmejclnagffaaDoorM20
import Derived.Test.YtmbmejclnagffaaDoorM21
import Derived.Test.YtmbmejclnagffaaDoorM22
import Derived.Test.YtmbmejclnagffaaDoorM23
import Derived.Test.YtmbmejclnagffaaDoorM24
import Derived.Test.YtmbmejclnagffaaDoorM25
import Derived.Test.YtmbmejclnagffaaDoorM26
import Derived.Test.YtmbmejclnagffaaDoorM27
import Derived.Test.YtmbmejclnagffaaDoorM28
import Derived.Test.YtmbmejclnagffaaDoorM29
import Derived.Test.YtmbmejclnagffaaDoorM30
import Derived.Test.YtmbmejclnagffaaDoorM31
import Derived.Test.YtmbmejclnagffaaDoorM32
import Derived.Test.YtmbmejclnagffaaDoorM33
import Derived.Test.YtmbmejclnagffaaDoorM34
import Derived.Test.YtmbmejclnagffaaDoorM35
import Derived.Test.YtmbmejclnagffaaDoorM36
import Derived.Test.YtmbmejclnagffaaDoorM37
import Derived.Test.YtmbmejclnagffaaDoorM38
import Derived.Test.YtmbmejclnagffaaDoorM39
import Derived.Test.YtmbmejclnagffaaDoorM40
import Derived.Test.YtmbmejclnagffaaDoorM41
import Derived.Test.YtmbmejclnagffaaDoorM42
import Derived.Test.YtmbmejclnagffaaDoorM43
import Derived.Test.YtmbmejclnagffaaDoorM44
import Derived.Test.YtmbmejclnagffaaDoorM45
import Derived.Test.YtmbmejclnagffaaDoorM46
import Derived.Test.YtmbmejclnagffaaDoorM47
import Derived.Test.YtmbmejclnagffaaDoorM48
import Derived.Test.YtmbmejclnagffaaDoorL1
import Derived.Test.YtmbmejclnagffaaDoorL2
set_option linter.unusedSimpArgs false
set_option linter.unusedVariables false
set_option maxRecDepth 100000
namespace Go.Proofs.YtmbmejclnagffaaDoor
open Go.RowKit
theorem Msgs.take {w : World} {A : Option Addr} {l : List Msg} (h : Msgs w A l) (n : Nat) : Msgs w A (l.take n) := by
  have e := List.take_append_drop n l
  rw [← e] at h
  exact h.pre
theorem Jok.hd {ms : List Msg} {h : Hd} {party sec : Int} (hj : Jok ms h party sec) (hne : ms ≠ []) : h.p = party ∧ h.n = ms.length ∧ h.c = chI ms := by
  have := hj.frm
  rw [frmB, Bool.and_eq_true, hdB, if_neg hne, decide_eq_true_eq] at this
  exact this.2
theorem chk_hd {l : List Msg} {h : Hd} {party pub : Int} (e : hdB l h party = false) : chkV l h party pub = false := by
  rw [chkV, sgdB, frmB, e]; simp
theorem last_less {ms : List Msg} {h : Hd} {party sec pub : Int} {k : Nat} (hj : Jok ms h party sec) (hp : ptyB party = true) (hk : ms.length = k + 1) : chkV (ms.take k) h party pub = false := by
  have hpi := ptyB_iff.1 hp
  obtain ⟨h1, h2, _⟩ := hj.hd (fun e => by rw [e] at hk; cases hk)
  refine chk_hd ?_
  unfold hdB
  split
  · exact decide_eq_false (fun h => by omega)
  · refine decide_eq_false (fun h => ?_)
    have := h.2.1
    rw [h2, List.length_take, hk] at this
    omega
/-- a message with other integers at another place -/
def Msg.new (z : Msg) (A : Option Addr) (c : Nat) (a : List Int) : Msg := ⟨z.p, z.s, z.t, z.k, A, c, a⟩
theorem last_turn {ms : List Msg} {h : Hd} {party sec pub b : Int} {k j : Nat} {z : Msg} (hj : Jok ms h party sec) (hk : ms.length = k + 1) (hz : ms[k]? = some z) (hja : j < z.a.length) (hb : 0 ≤ b) (A : Option Addr) (c : Nat) :
    chkV (ms.set k (z.new A c (z.a.set j (turnI (z.a.getD j 0) b)))) h party pub = false := by
  obtain ⟨_, _, h3⟩ := hj.hd (fun e => by rw [e] at hk; cases hk)
  have hm := hj.msg z (List.mem_of_getElem? hz)
  have ha := (inJ_iff.1 ((msgB_iff.1 hm).2.2.2.2.2 (z.a.getD j 0) (by rw [List.getD_eq_getElem?_getD, List.getElem?_eq_getElem hja]; exact List.getElem_mem hja))).1
  have hkl : k < ms.length := by omega
  have e1 : ms = ms.take k ++ [z] := by
    have : ms.drop k = [z] := by
      rw [List.drop_eq_getElem_cons hkl, List.drop_eq_nil_of_le (by omega)]
      rw [List.getElem?_eq_getElem hkl] at hz
      rw [Option.some.inj hz]
    rw [← this, List.take_append_drop]
  have e2 : ∀ y, ms.set k y = ms.take k ++ [y] := fun y => by
    rw [List.set_eq_take_append_cons_drop, if_pos hkl, List.drop_eq_nil_of_le (by omega)]
  refine chk_hd ?_
  unfold hdB
  rw [if_neg (by rw [e2]; simp)]
  refine decide_eq_false (fun hh => ?_)
  have hc := hh.2.2
  rw [h3, e2] at hc
  conv at hc => lhs; rw [e1]
  unfold chI at hc
  rw [List.map_append, List.map_append] at hc
  have e3 : msI (z.new A c (z.a.set j (turnI (z.a.getD j 0) b))) = (msI z).set (4 + j) (turnI ((msI z).getD (4 + j) 0) b) := by
    have : 4 + j = j + 1 + 1 + 1 + 1 := by omega
    rw [this]; rfl
  rw [List.map_singleton, List.map_singleton, e3] at hc
  refine chain_turn ((ms.take k).map msI) (msI z) (4 + j) b (by simp [msI]; omega) ?_ hb hc
  have : 4 + j = j + 1 + 1 + 1 + 1 := by omega
  rw [this]; exact ha
/-- a message of a list that was written anew, and its integers -/
theorem Msgs.swap {w w' : World} {b off k : Nat} {ms : List Msg} {z : Msg} (h : Msgs w (some ⟨b, off, none⟩) ms) (hs : w.heap.size ≤ w'.heap.size) (z' : Msg) (hk : ms[k]? = some z)
    (hc : ∀ i j, i ≠ k → j < 5 → w'.cell? ⟨b, off + (i * 5 + j), none⟩ = w.cell? ⟨b, off + (i * 5 + j), none⟩) (hi : ∀ m ∈ ms, IntsAt w m.A .i64 m.a → IntsAt w' m.A .i64 m.a)
    (hz : ∀ j, j < 5 → w'.cell? ⟨b, off + (k * 5 + j), none⟩ = z'.cells[j]?) (hf : MFit z' ∧ z'.a.length ≤ z'.c ∧ IntsAt w' z'.A .i64 z'.a) : Msgs w' (some ⟨b, off, none⟩) (ms.set k z') := fun i y hy => by
  by_cases e : i = k
  · subst e
    rw [List.getElem?_set] at hy
    simp only [if_true] at hy
    split at hy
    · obtain ⟨b', off', cs, e, hlt, _⟩ := h i z hk
      injection e with e; injection e with e1 e2
      subst e1 e2
      have : z' = y := Option.some.inj hy
      subst this
      exact ⟨b, off, z'.cells, rfl, by omega, rfl, hz, rfl, hf⟩
    · cases hy
  · rw [List.getElem?_set, if_neg (Ne.symm e)] at hy
    obtain ⟨b', off', cs, e', hlt, hl, hcs, h1, h2, h3, h4⟩ := h i y hy
    injection e' with e'; injection e' with e1 e2
    subst e1 e2
    exact ⟨b, off, cs, rfl, by omega, hl, fun j hj => (hc i j e hj).trans (hcs j hj), h1, h2, h3, hi y (List.mem_of_getElem? hy) h4⟩
/-- a row of messages of one's own lies in a block that may be written -/
theorem OwnM.block {w : World} {base : Nat} {A : Option Addr} {c : Nat} {l : List Msg} (h : OwnM w base A c l) (hl : 0 < l.length) : ∃ g, A = some ⟨g, 0, none⟩ ∧ base ≤ g ∧ g < w.heap.size ∧ ∀ j, w.frozen? ⟨g, j, none⟩ = false := by
  rcases h.2 with ⟨hv, hn⟩ | ⟨g, cap, cur, hv, hb, hh, _⟩
  · omega
  · injection hv with hA _ _
    exact ⟨g, hA, hb, lt_of_block hh, fun j => frozen_of_row w g j cur _ hh⟩
/-- what lies in other blocks is read as it was behind two stores -/
theorem ints_far2 {w : World} {A : Option Addr} {l : List Int} {b o g p : Nat} {u v : Value} (h : IntsAt w A .i64 l) (hb : ∀ b' off, l ≠ [] → A = some ⟨b', off, none⟩ → b' ≠ b ∧ b' ≠ g) : IntsAt ((w.setCell ⟨b, o, none⟩ u).setCell ⟨g, p, none⟩ v) A .i64 l := fun i hi => by
  obtain ⟨b', off, e, hlt, hc⟩ := h i hi
  have := hb b' off (fun e => by rw [e] at hi; simp at hi) e
  refine ⟨b', off, e, by simpa using hlt, ?_⟩
  rw [World.cell?_setCell_other _ _ _ _ (fun e => by injection e with e1 _; exact this.2 e1.symm), World.cell?_setCell_other _ _ _ _ (fun e => by injection e with e1 _; exact this.1 e1.symm)]
  exact hc
/-- the last message's integers at a new place, one of them another one -/
theorem Msgs.turn {w : World} {b k c2 j g : Nat} {ms : List Msg} {z : Msg} {y : Int} (h : Msgs w (some ⟨b, 0, none⟩) ms) (hk : ms[k]? = some z) (hg : IntsAt w (some ⟨g, 0, none⟩) .i64 z.a) (hc2 : z.a.length ≤ c2) (hj : j < z.a.length)
    (hm : ∀ m ∈ ms, ∀ b' off, m.a ≠ [] → m.A = some ⟨b', off, none⟩ → b' ≠ b ∧ b' ≠ g) (hne : b ≠ g) :
    Msgs ((w.setCell ⟨b, k * 5 + 4, none⟩ (.slice (some ⟨g, 0, none⟩) z.a.length c2)).setCell ⟨g, j, none⟩ (.int .i64 y)) (some ⟨b, 0, none⟩) (ms.set k (z.new (some ⟨g, 0, none⟩) c2 (z.a.set j y))) := by
  have hcell : ∀ o, o ≠ k * 5 + 4 → ((w.setCell ⟨b, k * 5 + 4, none⟩ (.slice (some ⟨g, 0, none⟩) z.a.length c2)).setCell ⟨g, j, none⟩ (.int .i64 y)).cell? ⟨b, o, none⟩ = w.cell? ⟨b, o, none⟩ := fun o ho => by
    rw [World.cell?_setCell_other _ _ _ _ (fun e => by injection e with e1 _; exact hne e1.symm), World.cell?_setCell_other _ _ _ _ (fun e => by injection e with _ e2; exact ho e2.symm)]
  obtain ⟨b', off, e, hb', ⟨hf, hcap, hi⟩, z0, z1, z2, z3, z4⟩ := h.at hk
  injection e with e; injection e with e1 e2
  subst e1 e2
  simp only [Nat.zero_add] at z0 z1 z2 z3 z4
  refine h.swap (by simp) _ hk (fun i j' hik hj' => ?_) (fun m hm' hi' => ints_far2 hi' (hm m hm')) (fun j' hj' => ?_) ⟨⟨hf.p, hf.s, hf.t, hf.k, ?_⟩, ?_, ?_⟩
  · rw [Nat.zero_add]; exact hcell _ (by omega)
  · rw [Nat.zero_add]
    rcases (show j' = 0 ∨ j' = 1 ∨ j' = 2 ∨ j' = 3 ∨ j' = 4 by omega) with rfl | rfl | rfl | rfl | rfl
    · rw [hcell _ (by omega)]; exact z0
    · rw [hcell _ (by omega)]; exact z1
    · rw [hcell _ (by omega)]; exact z2
    · rw [hcell _ (by omega)]; exact z3
    · rw [World.cell?_setCell_other _ _ _ _ (fun e => by injection e with e1 _; exact hne e1.symm), World.cell?_setCell_same _ _ _ z4]
      show _ = some (Value.slice (some ⟨g, 0, none⟩) (z.a.set j y).length c2)
      rw [List.length_set]
  · show (z.a.set j y).length ≤ _; rw [List.length_set]; exact hf.n
  · show (z.a.set j y).length ≤ c2; rw [List.length_set]; exact hc2
  · have h1 : IntsAt (w.setCell ⟨b, k * 5 + 4, none⟩ (.slice (some ⟨g, 0, none⟩) z.a.length c2)) (some ⟨g, 0, none⟩) .i64 z.a := fun i hi => by
      obtain ⟨b', off, e, hlt, hc⟩ := hg i hi
      refine ⟨b', off, e, by simpa using hlt, ?_⟩
      injection e with e; injection e with e1 e2
      rw [World.cell?_setCell_other _ _ _ _ (fun e => by injection e with e3 _; exact hne (e3.trans e1.symm))]
      exact hc
    have := h1.set_at hj y
    rw [Nat.zero_add] at this
    exact this
theorem jgrown0_any (party : Int) (E : Option Addr) (ce N : Nat) (l : List Ent) (sec : Int) (hlN : l.length = N) (hN : N ≤ 100) (hp : ptyB party = true) (hs : wthB sec 1 = true) (w : World) (hxs : Ents w E l) (ht : Tab w) (hc : Cnt w) :
    Calls Tryd.prog 15 #[.agg #[.slice none 0 0, .int .i64 0, .int .i64 0, .int .u64 0, .int .i64 0, .int .i64 0], .int .i64 party, .slice E N ce, .int .i64 sec] w (GrownAt [] N party sec w) :=
  jgrown_any none 0 0 [] hd0 party E ce N l sec rfl ⟨Nat.le_refl _, by unfold maxLen; omega⟩ hlN (by omega) (Jok.nil party sec) hp hs w RowsAt.nil hxs ht hc
section
open Go.RowKit Go.Maps
/-- two new slots -/
def Two (w wx : World) (g h : Nat) (u v : Array Value) : Prop := (w.heap.size ≤ g ∧ w.heap.size ≤ h ∧ g ≠ h) ∧ Blk wx g u ∧ Blk wx h v ∧ Below w.heap.size w wx
theorem Two.drew {w wx : World} {g h : Nat} {u v : Array Value} (t : Two w wx g h u v) : Two w wx.drew g h u v := ⟨t.1, t.2.1.below (Below.refl _ _).drew, t.2.2.1.below (Below.refl _ _).drew, t.2.2.2.drew⟩
section
variable {w w2 : World} {U V : Array Value} {t t' : TypeId} {g h : Nat} {z0 z1 z2 z3 y0 y1 y2 y3 a0 a1 a2 a3 b0 b1 b2 b3 : Value}
theorem two_nn (b : Below w.heap.size w w2) : Two w ((w2.alloc (.cells U t)).alloc (.cells V t')) w2.heap.size (w2.heap.size + 1) U V :=
  ⟨⟨b.size, by have := b.size; omega, by omega⟩, (blk_new rfl).alloc _, blk_new (by simp), (b.alloc b.size _).alloc (by have := b.size; simp; omega) _⟩
theorem two_nn' (b : Below w.heap.size w w2) : Two w ((w2.alloc (.cells V t)).alloc (.cells U t')) (w2.heap.size + 1) w2.heap.size U V :=
  ⟨⟨by have := b.size; omega, b.size, by omega⟩, blk_new (by simp), (blk_new rfl).alloc _, (b.alloc b.size _).alloc (by have := b.size; simp; omega) _⟩
end
end
end Go.Proofs.YtmbmejclnagffaaDoor
