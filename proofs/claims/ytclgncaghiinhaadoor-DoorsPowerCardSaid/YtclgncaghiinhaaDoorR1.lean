/- Doors in plain Lean: showings left out; the power that fails; one lock alone. -/
import Derived.Test.YtclgncaghiinhaaDoorChecked
import Derived.WalkKit
import Derived.WalkSpells
import Derived.WalkLawsBesides
import Derived.Deep.QuietTactic
import Derived.BigQuiet
import Derived.BigGuardPart
import Derived.Lib.Hide
import Derived.Below
import Derived.IntWalk
import Derived.Laws.Rows
import Derived.OneCell
import Derived.Outline
import Derived.Deep.RegionHeld3
import Derived.Deep.RegionWith
import Derived.Maps.AppendAt
import Derived.Deep.AppendLies
import Derived.Laws.OwnMore
import Derived.OwnWalk
import Derived.ProofKit
import Derived.OpenShut
import Derived.ChangeOld
import Derived.Deep.Matrix
import Derived.DataShut
import Derived.SizedLaws
import Derived.Deep.Slices
import Derived.Laws.BitsAllLaws
import Derived.Lib.ItoaNum
import Derived.Lib.ItoaLen
import Derived.Shelf.Small.Wraps
import Derived.Shelf.Strconv.Itoa0
import Derived.Shelf.Strconv.Itoa1
import Derived.Shelf.LaysM
import Derived.Shelf.Strconv.Itoa2
import Derived.Shelf.Strconv.Itoa3
import Derived.Shelf.Slices.Turned
import Derived.Shelf.Slices.Reverse
import Derived.Ground.Names2Prog
import Derived.Shelf.Slices.Clone
import Derived.Shelf.Slices.SearchI
import Derived.Shelf.Slices.Cells
import Derived.Shelf.Slices.Empties
import Derived.Test.YtclgncaghiinhaaDoorProg
import Derived.Lib.AppendIntMem
import Derived.Lib.OthersKept
import Derived.Lib.AppendStr
import Derived.Laws.BytesArg
import Derived.Lib.Strings
import Derived.Lib.SlBytesConst
import Derived.StillTailTactics
import Derived.Deep.Cut
import Derived.Lib.SmallJoins
import Derived.Maps.OwnSet
import Derived.Maps.OwnOps
import Derived.Deep.CutRange
import Derived.Shelf.Spec.SlicesInsert
import Derived.Shelf.Spec.SlicesInsertGrow
import Derived.Test.YtclgncaghiinhaaDoorM1
import Derived.Test.YtclgncaghiinhaaDoorM2
import Derived.Test.YtclgncaghiinhaaDoorM3
import Derived.Test.YtclgncaghiinhaaDoorM4
import Derived.Test.YtclgncaghiinhaaDoorM5
import Derived.Test.YtclgncaghiinhaaDoorM6
import Derived.Test.YtclgncaghiinhaaDoorM7
import Derived.Test.YtclgncaghiinhaaDoorM8
import Derived.Test.YtclgncaghiinhaaDoorM9
import Derived.Test.YtclgncaghiinhaaDoorM10
import Derived.Test.YtclgncaghiinhaaDoorM11
import Derived.Test.YtclgncaghiinhaaDoorM12
import Derived.Test.YtclgncaghiinhaaDoorM13
import Derived.Test.YtclgncaghiinhaaDoorM14
import Derived.Test.YtclgncaghiinhaaDoorM15
import Derived.Test.YtclgncaghiinhaaDoorM16
import Derived.Test.YtclgncaghiinhaaDoorM17
import Derived.Test.YtclgncaghiinhaaDoorM18
import Derived.Test.YtclgncaghiinhaaDoorM19
import Derived.Test.YtclgncaghiinhaaDoorM20
import Derived.Test.YtclgncaghiinhaaDoorM21
import Derived.Test.YtclgncaghiinhaaDoorM22
import Derived.Test.YtclgncaghiinhaaDoorM23
import Derived.Test.YtclgncaghiinhaaDoorM24
import Derived.Test.YtclgncaghiinhaaDoorM25
import Derived.Test.YtclgncaghiinhaaDoorM26
import Derived.Test.YtclgncaghiinhaaDoorM27
import Derived.Test.YtclgncaghiinhaaDoorM28
import Derived.Test.YtclgncaghiinhaaDoorM29
import Derived.Test.YtclgncaghiinhaaDoorM30
import Derived.Test.YtclgncaghiinhaaDoorM31
import Derived.Test.YtclgncaghiinhaaDoorM32
import Derived.Test.YtclgncaghiinhaaDoorM33
import Derived.Test.YtclgncaghiinhaaDoorM34
import Derived.Test.YtclgncaghiinhaaDoorM35
import Derived.Test.YtclgncaghiinhaaDoorM36
import Derived.Test.YtclgncaghiinhaaDoorM37
import Derived.Test.YtclgncaghiinhaaDoorM38
import Derived.Test.YtclgncaghiinhaaDoorM39
import Derived.Test.YtclgncaghiinhaaDoorM40
import Derived.Test.YtclgncaghiinhaaDoorM41
import Derived.Test.YtclgncaghiinhaaDoorM42
import Derived.Test.YtclgncaghiinhaaDoorM43
import Derived.Test.YtclgncaghiinhaaDoorM44
import Derived.Test.YtclgncaghiinhaaDoorM45
import Derived.Test.YtclgncaghiinhaaDoorM46
import Derived.Test.YtclgncaghiinhaaDoorM47
import Derived.Test.YtclgncaghiinhaaDoorM48
set_option linter.unusedSimpArgs false
set_option linter.unusedVariables false
set_option maxRecDepth 100000
namespace Go.Proofs.YtclgncaghiinhaaDoor
open Go.RowKit

section
section
variable {α : Type} {cells : α → List Value} {C : Nat}
variable {E : TypeId} {w w' : World} {base : Nat} {A : Option Addr} {c : Nat} {l : List α}
variable {P : Program}
/-- the law of append at the operation, lengths under names -/
theorem wp_app_gen {At : World → List Value → α → Prop} (w : World) {ops : Array Oper} {rest : List Oper} {o : Oper} {a : Act} {Q : Exit → Act → World → Prop} (hgd : o.guard = none) (s x : Operand) (t : TypeId)
    (ho : o.op = .call { callee := .builtin .append, args := #[s, x], argTypes := #[t, t] }) (i : TypeInfo) (z : Value) (bytes : Nat) (ht : P.underlying t = some (.slice E)) (hi : P.info? E = some i) (hz : i.zero = some z)
    (hsize : i.size = C) (hby : i.bytes = bytes) (hzs : z.cells.size = C) (hC0 : 0 < C) (hC : ∀ z, (cells z).length = C) (hone : ∀ z, ∀ u ∈ cells z, u.oneCell' = true) (hAt : ∀ cs z, At w cs z → cs = cells z)
    (n : Nat) (hln : l.length = n) (hs : a.eval s = .slice A n c) (hown : OwnRows E C cells w base A c l) (B : Option Addr) (cc m : Nat) (mm : List α) (hlm : mm.length = m) (hx : a.eval x = .slice B m cc) (hr : RowsAt C At w B mm)
    (h63 : n + m ≤ maxLen) (hb : (n + m) * bytes ≤ 140737488355328) (hbase : base ≤ w.heap.size)
    (h : ∀ A' c' w', OwnRows E C cells w' base A' c' (l ++ mm) → w.grownBy w' (blockOf A) → (blockOf A' = blockOf A ∨ blockOf A' = some w.heap.size) → wpList P ops Q rest (a.put o.dst (.slice A' (n + m) c')) w') : wpList P ops Q (o :: rest) a w := by
  subst hln hlm
  obtain ⟨A', c', w', hrun, h2, h3, h4⟩ := run_app_gen w t o.type i z bytes ht hi hz hsize hby hzs hC0 hC hone hAt hown B cc mm hr h63 hb hbase
  refine wpList_plain hgd fun _ hK => ?_
  unfold Oper.wp execOp
  simp only [ho, resolve, invoke, builtin, Sem.run_bind, Sem.run_pure, Result.andThen_ok, List.map_toArray, List.map_cons, List.map_nil, hs, hx, hrun]
  rw [List.length_append]
  exact hK _ _ (h A' c' w' h2 h3 h4)
end
end
theorem shE_at {l : Lk} {c : Crd} {t a b : Int} (ha : ¬ a < 0 ∧ ¬ 3 < a) (hb : ¬ b < 0 ∧ ¬ 3 < b) : shE l c t a = shE l c t b := by
  unfold shE shWE
  rw [wrE_at ha hb]
  simp only [ha, hb, not_false_eq_true, and_self]
theorem Leq.refl {l : Lk} (h : lvB l = true) : Leq l l := ⟨rfl, rfl, rfl, h, h, rfl, rfl, rfl⟩
theorem Leq.symm {l m : Lk} (h : Leq l m) : Leq m l := ⟨h.d.symm, h.k.symm, h.r.symm, h.v2, h.v, h.s.symm, h.c.symm, h.l.symm⟩
theorem Leq.trans {l m n : Lk} (h : Leq l m) (g : Leq m n) : Leq l n := ⟨h.d.trans g.d, h.k.trans g.k, h.r.trans g.r, h.v, g.v2, h.s.trans g.s, h.c.trans g.c, h.l.trans g.l⟩
theorem Leq.aft {l m : Lk} (h : Leq l m) (c : Crd) : aftC l c = aftC m c ∧ aftL l c = aftL m c ∧ shW l c = shW m c := by
  have e1 : aftC l c = aftC m c := by unfold aftC; rw [h.c]
  have e2 : aftL l c = aftL m c := by unfold aftL; rw [h.l]
  exact ⟨e1, e2, by unfold shW; rw [e1, e2, h.c, h.l]⟩
theorem Leq.err {l m : Lk} (h : Leq l m) (hu : l.up = m.up) (c : Crd) (t a : Int) : shE l c t a = shE m c t a := by
  obtain ⟨e1, e2, e3⟩ := h.aft c
  have ea : accB l c t = accB m c t := by
    rw [Bool.eq_iff_iff, acc_iff, acc_iff, h.d, h.r, h.c, h.l]
  have ew : wrE l.x l.y (aftC l c) (aftL l c) a = wrE m.x m.y (aftC m c) (aftL m c) a := by
    rw [e1, e2]; unfold wrE
    rw [top_keep (lv_best h.v), top_keep (lv_best h.v2), h.s]
  unfold shE shWE
  rw [h.v, h.v2, hu, h.k, ea, e3, ew]
theorem Leq.left {l m : Lk} (h : Leq l m) {c : Crd} {t a b : Int} (hl : shE l c t a = 0) (hm : shE m c t b = 0) (hab : 2 ≤ a ∧ 2 ≤ b) : Leq (shR l c t a) (shR m c t b) := by
  have x := left_of hl
  have y := left_of hm
  obtain ⟨e1, e2, e3⟩ := h.aft c
  refine ⟨by rw [x.d, y.d, h.d], by rw [x.k, y.k, h.k], by rw [x.r, y.r, h.r], x.v, y.v, ?_, ?_, ?_⟩
  · rw [left_s hl, left_s hm, e3, h.s]
    simp only [hab.1, hab.2, and_true]
  · rw [(x.new hab.1).1, (y.new hab.2).1, e1]
  · rw [(x.new hab.1).2, (y.new hab.2).2, e2]
theorem Leq.old {l : Lk} {c : Crd} {t a : Int} (h : shE l c t a = 0) (ha : a < 2) : Leq l (shR l c t a) := by
  have x := left_of h
  obtain ⟨⟨h1, _⟩, _⟩ := sh_ok h
  exact ⟨x.d.symm, x.k.symm, x.r.symm, h1, x.v, by rw [x.old ha], by rw [x.old ha], by rw [x.old ha]⟩
theorem stp_low {l : Lk} {c : Crd} {t a : Int} (h : lvB l = true) (ha : a < 2) : Leq l (stp l c t a).1 ∧ (stp l c t a).2 = false := by
  unfold stp; split
  · rename_i e
    refine ⟨((Leq.refl h).up l.up true).trans (Leq.old e ha), ?_⟩
    simp only
    rw [shO, if_pos e, decide_eq_false (by omega), Bool.false_and]
  · exact ⟨(Leq.refl h).up l.up true, rfl⟩
theorem stp_leq {l m : Lk} (h : Leq l m) {c : Crd} {t a b : Int} (ha : 2 ≤ a ∧ a ≤ 3) (hb : 2 ≤ b ∧ b ≤ 3) : Leq (stp l c t a).1 (stp m c t b).1 ∧ (stp l c t a).2 = (decide (a = 3) && (stp m c t 3).2) := by
  have hu := h.up true true
  have e := hu.err rfl c t a
  have e2 : shE { m with up := true } c t a = shE { m with up := true } c t b := shE_at (by omega) (by omega)
  have e3 : shE { m with up := true } c t a = shE { m with up := true } c t 3 := shE_at (by omega) (by omega)
  by_cases h0 : shE { l with up := true } c t a = 0
  · have m0 : shE { m with up := true } c t b = 0 := by rw [← e2, ← e]; exact h0
    have m3 : shE { m with up := true } c t 3 = 0 := by rw [← e3, ← e]; exact h0
    unfold stp
    rw [if_pos h0, if_pos m0, if_pos m3]
    refine ⟨hu.left h0 m0 ⟨ha.1, hb.1⟩, ?_⟩
    simp only
    rw [shO, if_pos h0, shO, if_pos m3]
    simp
  · have m0 : ¬ shE { m with up := true } c t b = 0 := by rw [← e2, ← e]; exact h0
    have m3 : ¬ shE { m with up := true } c t 3 = 0 := by rw [← e3, ← e]; exact h0
    unfold stp
    rw [if_neg h0, if_neg m0, if_neg m3]
    exact ⟨hu, by simp⟩
/-- two lists of locks that keep the same -/
def RLeq (ls ms : List Lk) : Prop := ls.length = ms.length ∧ ∀ k, k < ls.length → Leq (lkD ls k) (lkD ms k)
theorem RLeq.refl {ls : List Lk} (h : AllV ls) : RLeq ls ls := ⟨rfl, fun k hk => Leq.refl (h k hk)⟩
theorem RLeq.low {ls ms : List Lk} (h : RLeq ls ms) (cs : List Crd) {s : Shw} (hs : s.i < ls.length) (ha : s.a < 2) : RLeq (oneS cs ls s) ms ∧ oneO cs ls s = false := by
  have hl := h.2 s.i hs
  obtain ⟨x, y⟩ := stp_low (l := lkD ls s.i) (c := cdD cs s.j) (t := s.t) hl.v ha
  refine ⟨⟨by rw [oneS, List.length_set]; exact h.1, fun k hk => ?_⟩, y⟩
  rw [oneS, List.length_set] at hk
  rw [oneS_at hs]
  split
  · rename_i e; subst e; exact x.symm.trans hl
  · exact h.2 k hk
theorem RLeq.step {ls ms : List Lk} (h : RLeq ls ms) (cs : List Crd) {s u : Shw} (hi : s.i = u.i) (hj : s.j = u.j) (ht : s.t = u.t) (hs : s.i < ls.length) (ha : 2 ≤ s.a ∧ s.a ≤ 3) (hb : 2 ≤ u.a ∧ u.a ≤ 3) :
    RLeq (oneS cs ls s) (oneS cs ms u) ∧ oneO cs ls s = (decide (s.a = 3) && (stp (lkD ms u.i) (cdD cs u.j) u.t 3).2) := by
  have hl := h.2 s.i hs
  obtain ⟨x, y⟩ := stp_leq hl (c := cdD cs s.j) (t := s.t) ha hb
  have hu : u.i < ms.length := by rw [← h.1, ← hi]; exact hs
  refine ⟨⟨by rw [oneS, oneS, List.length_set, List.length_set]; exact h.1, fun k hk => ?_⟩, ?_⟩
  · rw [oneS, List.length_set] at hk
    rw [oneS_at hs, oneS_at hu, ← hi, ← hj, ← ht]
    split
    · exact x
    · exact h.2 k hk
  · rw [← hi, ← hj, ← ht]; exact y
theorem oneO_at {ls ms : List Lk} (h : RLeq ls ms) (cs : List Crd) {s : Shw} (hs : s.i < ls.length) (ha : 2 ≤ s.a ∧ s.a ≤ 3) : oneO cs ls s = oneO cs ms s := by
  have x := (h.step cs rfl rfl rfl hs ha ha).2
  have hm : RLeq ms ms := ⟨rfl, fun k hk => Leq.refl (h.2 k (by rw [h.1]; exact hk)).v2⟩
  have y := (hm.step cs rfl rfl rfl (by rw [← h.1]; exact hs) ha ha).2
  rw [x, y]
/-- the showings that are not cut off early, and what they did -/
def kptS (p : List Shw) : List Shw := p.filter fun s => decide (2 ≤ s.a)
def wntS : List Shw → List Bool → List Bool
  | s :: r, b :: o => if 2 ≤ s.a then b :: wntS r o else wntS r o
  | _, _ => []
theorem power_run (cs : List Crd) : ∀ (p : List Shw) (ls ms : List Lk), RLeq ls ms → (∀ s ∈ p, s.i < ls.length ∧ 0 ≤ s.a ∧ s.a ≤ 3) → wntS p (runO cs ls p) = runO cs ms (kptS p) ∧ ∀ (i : Nat) (s : Shw), p[i]? = some s → s.a < 2 → (runO cs ls p)[i]? = some false
  | [], _, _, _, _ => ⟨rfl, fun i s h => by simp at h⟩
  | x :: r, ls, ms, h, hp => by
    have hx := hp x List.mem_cons_self
    by_cases ha : x.a < 2
    · obtain ⟨h1, h2⟩ := h.low cs hx.1 ha
      obtain ⟨i1, i2⟩ := power_run cs r (oneS cs ls x) ms h1 (fun s hs => by rw [oneS, List.length_set]; exact hp s (List.mem_cons_of_mem _ hs))
      have e : kptS (x :: r) = kptS r := by simp only [kptS]; rw [List.filter_cons, if_neg (by simpa using ha)]
      refine ⟨by rw [runO, wntS, if_neg (by omega), i1, e], fun i s hi hs => ?_⟩
      cases i with
      | zero => simp only [runO, List.getElem?_cons_zero, h2]
      | succ i =>
        simp only [List.getElem?_cons_succ] at hi
        simp only [runO, List.getElem?_cons_succ]; exact i2 i s hi hs
    · have h3 : 2 ≤ x.a ∧ x.a ≤ 3 := by omega
      obtain ⟨h1, _⟩ := h.step cs rfl rfl rfl hx.1 h3 h3
      obtain ⟨i1, i2⟩ := power_run cs r (oneS cs ls x) (oneS cs ms x) h1 (fun s hs => by rw [oneS, List.length_set]; exact hp s (List.mem_cons_of_mem _ hs))
      have e : kptS (x :: r) = x :: kptS r := by simp only [kptS]; rw [List.filter_cons, if_pos (by simpa using h3.1)]
      refine ⟨by rw [runO, wntS, if_pos h3.1, i1, e, runO, oneO_at h cs hx.1 h3], fun i s hi hs => ?_⟩
      cases i with
      | zero =>
        simp only [List.getElem?_cons_zero, Option.some.injEq] at hi
        subst hi; omega
      | succ i =>
        simp only [List.getElem?_cons_succ] at hi
        simp only [runO, List.getElem?_cons_succ]; exact i2 i s hi hs
/-- the same showings, none of them cut off -/
def whlS (p : List Shw) : List Shw := p.map fun s => { s with a := 3 }
theorem whole_run (cs : List Crd) : ∀ (p : List Shw) (ls ms : List Lk), RLeq ls ms → (∀ s ∈ p, s.i < ls.length ∧ 2 ≤ s.a ∧ s.a ≤ 3) → ∀ (i : Nat) (s : Shw), p[i]? = some s → ∃ b, (runO cs ms (whlS p))[i]? = some b ∧ (runO cs ls p)[i]? = some (decide (s.a = 3) && b)
  | [], _, _, _, _, i, s, h => by simp at h
  | x :: r, ls, ms, h, hp, i, s, hi => by
    have hx := hp x List.mem_cons_self
    obtain ⟨h1, h2⟩ := h.step cs (s := x) (u := { x with a := 3 }) rfl rfl rfl hx.1 hx.2 ⟨by simp, by simp⟩
    cases i with
    | zero =>
      simp only [List.getElem?_cons_zero, Option.some.injEq] at hi
      subst hi
      exact ⟨_, rfl, by simp only [runO, List.getElem?_cons_zero, h2]; rfl⟩
    | succ i =>
      simp only [List.getElem?_cons_succ] at hi
      simp only [whlS, List.map_cons, runO, List.getElem?_cons_succ]
      exact whole_run cs r (oneS cs ls x) (oneS cs ms { x with a := 3 }) h1 (fun s hs => by rw [oneS, List.length_set]; exact hp s (List.mem_cons_of_mem _ hs)) i s hi
end Go.Proofs.YtclgncaghiinhaaDoor
