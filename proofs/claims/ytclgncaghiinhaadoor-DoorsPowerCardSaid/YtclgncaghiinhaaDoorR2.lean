/- The walk of DoorsPower. -/
import Derived.Test.YtclgncaghiinhaaDoorChecked
import Derived.WalkKit
import Derived.WalkSpells
import Derived.WalkLawsBesides
import Derived.Deep.QuietTactic
import Derived.BigQuiet
import Derived.BigGuardPart
import Derived.Lib.Hide
import Derived.Below
import Derived.IntWalk
import Derived.Laws.Rows
import Derived.OneCell
import Derived.Outline
import Derived.Deep.RegionHeld3
import Derived.Deep.RegionWith
import Derived.Maps.AppendAt
import Derived.Deep.AppendLies
import Derived.Laws.OwnMore
import Derived.OwnWalk
import Derived.Laws.BitsAllLaws
import Derived.Lib.ItoaNum
import Derived.Lib.ItoaLen
import Derived.Shelf.Small.Wraps
import Derived.Shelf.Strconv.Itoa0
import Derived.Shelf.Strconv.Itoa1
import Derived.Shelf.LaysM
import Derived.Shelf.Strconv.Itoa2
import Derived.Shelf.Strconv.Itoa3
import Derived.Shelf.Slices.Turned
import Derived.Shelf.Slices.Reverse
import Derived.Ground.Names2Prog
import Derived.Shelf.Slices.Clone
import Derived.Shelf.Slices.SearchI
import Derived.Shelf.Slices.Cells
import Derived.Shelf.Slices.Empties
import Derived.Test.YtclgncaghiinhaaDoorProg
import Derived.Lib.AppendIntMem
import Derived.Lib.OthersKept
import Derived.Lib.AppendStr
import Derived.Laws.BytesArg
import Derived.Lib.Strings
import Derived.Lib.SlBytesConst
import Derived.StillTailTactics
import Derived.ProofKit
import Derived.OpenShut
import Derived.ChangeOld
import Derived.Deep.Matrix
import Derived.DataShut
import Derived.SizedLaws
import Derived.Deep.Cut
import Derived.Lib.SmallJoins
import Derived.Deep.Slices
import Derived.Maps.OwnSet
import Derived.Maps.OwnOps
import Derived.Deep.CutRange
import Derived.Shelf.Spec.SlicesInsert
import Derived.Shelf.Spec.SlicesInsertGrow
import Derived.RangeFuncNested
import Derived.RangeFuncWrites
import Derived.OwnWalkIn
import Derived.Deep.RegionHeld
import Derived.RangeFuncBound
import Derived.RangeFuncCalls
import Derived.RangeFuncLeaves
import Derived.Shelf.Abstract
import Derived.Shelf.RegionOpen
import Derived.TacticsInMore
import Derived.LoopNIn
import Derived.LoopIn
import Derived.BigGuardPartIn
import Derived.DeepKeys
import Derived.Test.YtclgncaghiinhaaDoorM1
import Derived.Test.YtclgncaghiinhaaDoorM2
import Derived.Test.YtclgncaghiinhaaDoorM3
import Derived.Test.YtclgncaghiinhaaDoorM4
import Derived.Test.YtclgncaghiinhaaDoorM5
import Derived.Test.YtclgncaghiinhaaDoorM6
import Derived.Test.YtclgncaghiinhaaDoorM7
import Derived.Test.YtclgncaghiinhaaDoorM8
import Derived.Test.YtclgncaghiinhaaDoorM9
import Derived.Test.YtclgncaghiinhaaDoorM10
import Derived.Test.YtclgncaghiinhaaDoorM11
import Derived.Test.YtclgncaghiinhaaDoorM12
import Derived.Test.YtclgncaghiinhaaDoorM13
import Derived.Test.YtclgncaghiinhaaDoorM14
import Derived.Test.YtclgncaghiinhaaDoorM15
import Derived.Test.YtclgncaghiinhaaDoorM16
import Derived.Test.YtclgncaghiinhaaDoorM17
import Derived.Test.YtclgncaghiinhaaDoorM18
import Derived.Test.YtclgncaghiinhaaDoorM19
import Derived.Test.YtclgncaghiinhaaDoorM20
import Derived.Test.YtclgncaghiinhaaDoorM21
import Derived.Test.YtclgncaghiinhaaDoorM22
import Derived.Test.YtclgncaghiinhaaDoorM23
import Derived.Test.YtclgncaghiinhaaDoorM24
import Derived.Test.YtclgncaghiinhaaDoorM25
import Derived.Test.YtclgncaghiinhaaDoorM26
import Derived.Test.YtclgncaghiinhaaDoorM27
import Derived.Test.YtclgncaghiinhaaDoorM28
import Derived.Test.YtclgncaghiinhaaDoorM29
import Derived.Test.YtclgncaghiinhaaDoorM30
import Derived.Test.YtclgncaghiinhaaDoorM31
import Derived.Test.YtclgncaghiinhaaDoorM32
import Derived.Test.YtclgncaghiinhaaDoorM33
import Derived.Test.YtclgncaghiinhaaDoorM34
import Derived.Test.YtclgncaghiinhaaDoorM35
import Derived.Test.YtclgncaghiinhaaDoorM36
import Derived.Test.YtclgncaghiinhaaDoorM37
import Derived.Test.YtclgncaghiinhaaDoorM38
import Derived.Test.YtclgncaghiinhaaDoorM39
import Derived.Test.YtclgncaghiinhaaDoorM40
import Derived.Test.YtclgncaghiinhaaDoorM41
import Derived.Test.YtclgncaghiinhaaDoorM42
import Derived.Test.YtclgncaghiinhaaDoorM43
import Derived.Test.YtclgncaghiinhaaDoorM44
import Derived.Test.YtclgncaghiinhaaDoorM45
import Derived.Test.YtclgncaghiinhaaDoorM46
import Derived.Test.YtclgncaghiinhaaDoorM47
import Derived.Test.YtclgncaghiinhaaDoorM48
import Derived.Test.YtclgncaghiinhaaDoorR1
set_option linter.unusedSimpArgs false
set_option linter.unusedVariables false
set_option maxRecDepth 100000
namespace Go.Proofs.YtclgncaghiinhaaDoor
open Go.RowKit
section
theorem infoShow : (Tryd.prog.info? 35).map (fun i => (i.zero, i.size, i.bytes)) = some (some (.agg #[.int .i64 0, .int .i64 0, .int .i64 0, .int .i64 0]), 4, 32) := by kernel_rfl
theorem sh4_one (s : Sh4) : ∀ u ∈ s.cells, u.oneCell' = true := fun u hu => by
  simp only [Sh4.cells, List.mem_cons, List.not_mem_nil, or_false] at hu
  rcases hu with rfl | rfl | rfl | rfl <;> rfl
def OwnS (w : World) (base : Nat) (A : Option Addr) (c : Nat) (l : List Sh4) : Prop := OwnRows 35 4 Sh4.cells w base A c l
def OwnB (w : World) (base : Nat) (A : Option Addr) (c : Nat) (l : List Bool) : Prop := OwnRows 4 1 boolC w base A c l
theorem OwnS.shows {w : World} {base : Nat} {A : Option Addr} {c : Nat} {l : List Sh4} (h : OwnS w base A c l) : Shows w A l := OwnRows.rows h sh4_len fun _ _ => rfl
theorem OwnB.bls {w : World} {base : Nat} {A : Option Addr} {c : Nat} {l : List Bool} (h : OwnB w base A c l) : Bls w A l := OwnRows.rows h boolC_len fun _ _ => rfl
section
variable {ops : Array Oper} {o : Oper} {a : Act} {Q : Exit → Act → World → Prop}
theorem wp_app_show {rest : List Oper} (w : World) (hgd : o.guard = none) (s x : Operand) (ho : o.op = .call { callee := .builtin .append, args := #[s, x], argTypes := #[24, 24] }) (base : Nat) (A B : Option Addr) (c cc n : Nat) (l : List Sh4) (z : Sh4) (hln : l.length = n) (hn : n ≤ 1000) (hs : a.eval s = .slice A n c) (hx : a.eval x = .slice B 1 cc) (hown : OwnS w base A c l) (hr : Shows w B [z]) (hbase : base ≤ w.heap.size)
    (h : ∀ A' c' w', OwnS w' base A' c' (l ++ [z]) → w.grownBy w' (blockOf A) → wpList Tryd.prog ops Q rest (a.put o.dst (.slice A' (n + 1) c')) w') : wpList Tryd.prog ops Q (o :: rest) a w := by
  obtain ⟨i0, hi0, hz0, hz1, hz2⟩ := info_parts infoShow
  exact wp_app_gen (At := Sh4At) w hgd s x _ ho i0 _ 32 Tryd.underlying24 hi0 hz0 hz1 hz2 rfl (by decide) sh4_len sh4_one (fun _ _ h => h) n hln hs hown B cc 1 [z] rfl hx hr (by unfold maxLen; omega) (by omega) hbase fun A' c' w' h1 h2 _ => h A' c' w' h1 h2
theorem wp_app_bool {rest : List Oper} (w : World) (hgd : o.guard = none) (s x : Operand) (ho : o.op = .call { callee := .builtin .append, args := #[s, x], argTypes := #[27, 27] }) (base : Nat) (A B : Option Addr) (c cc n : Nat) (l : List Bool) (z : Bool) (hln : l.length = n) (hn : n ≤ 1000) (hs : a.eval s = .slice A n c) (hx : a.eval x = .slice B 1 cc) (hown : OwnB w base A c l) (hr : Bls w B [z]) (hbase : base ≤ w.heap.size)
    (h : ∀ A' c' w', OwnB w' base A' c' (l ++ [z]) → w.grownBy w' (blockOf A) → wpList Tryd.prog ops Q rest (a.put o.dst (.slice A' (n + 1) c')) w') : wpList Tryd.prog ops Q (o :: rest) a w := by
  obtain ⟨i0, hi0, hz0, hz1, hz2⟩ := info_parts infoBool
  exact wp_app_gen (At := BlAt) w hgd s x _ ho i0 _ 1 Tryd.underlying27 hi0 hz0 hz1 hz2 rfl (by decide) boolC_len boolC_one (fun _ _ h => h) n hln hs hown B cc 1 [z] rfl hx hr (by unfold maxLen; omega) (by omega) hbase fun A' c' w' h1 h2 _ => h A' c' w' h1 h2
end
theorem bls_new (w : World) (b : Bool) (t : TypeId) (n : Nat) (hn : w.heap.size = n) : Bls (w.alloc (.cells #[.bool b] t)) (some ⟨n, 0, none⟩) [b] := bls_lit w [b] _ t n hn rfl
theorem shows_new (w : World) (s : Sh4) (t : TypeId) (n : Nat) (hn : w.heap.size = n) : Shows (w.alloc (.cells #[.int .i64 s.a, .int .i64 s.b, .int .i64 s.c, .int .i64 s.d] t)) (some ⟨n, 0, none⟩) [s] := shows_lit w [s] _ t n hn rfl
/-- the chosen ones -/
def selS (q : Sh4 → Bool) (f : Sh4 → Sh4) (l : List Sh4) : List Sh4 := (l.filter q).map f
def selB (q : Sh4 → Bool) : List Sh4 → List Bool → List Bool
  | s :: r, b :: o => if q s = true then b :: selB q r o else selB q r o
  | _, _ => []
theorem selS_snoc {q : Sh4 → Bool} {f : Sh4 → Sh4} {l : List Sh4} {j : Nat} {s : Sh4} (h : l[j]? = some s) : selS q f (l.take (j + 1)) = selS q f (l.take j) ++ (if q s = true then [f s] else []) := by
  rw [List.take_add_one, h]
  simp only [selS, Option.toList_some, List.filter_append, List.map_append]
  by_cases hq : q s = true
  · rw [if_pos hq]; simp [hq]
  · rw [if_neg hq]; simp [hq]
theorem selB_snoc {q : Sh4 → Bool} : ∀ {l : List Sh4} {o : List Bool} {j : Nat} {s : Sh4} {b : Bool}, l[j]? = some s → o[j]? = some b → selB q (l.take (j + 1)) (o.take (j + 1)) = selB q (l.take j) (o.take j) ++ (if q s = true then [b] else [])
  | [], _, j, s, b, h, _ => by simp at h
  | _ :: _, [], j, s, b, _, h => by simp at h
  | x :: r, y :: o, 0, s, b, h1, h2 => by
    have e1 : x = s := by simpa using h1
    have e2 : y = b := by simpa using h2
    subst e1 e2
    simp [selB]
  | x :: r, y :: o, j + 1, s, b, h1, h2 => by
    have ih := selB_snoc (q := q) (l := r) (o := o) (j := j) (s := s) (b := b) (by simpa using h1) (by simpa using h2)
    simp only [List.take_succ_cons, selB]
    split
    · rw [ih]; rfl
    · exact ih
theorem sel_len {q : Sh4 → Bool} {f : Sh4 → Sh4} : ∀ {l : List Sh4} {o : List Bool}, l.length = o.length → (selB q l o).length = (selS q f l).length
  | [], [], _ => rfl
  | [], _ :: _, h => by simp at h
  | _ :: _, [], h => by simp at h
  | x :: r, y :: o, h => by
    have ih := sel_len (q := q) (f := f) (l := r) (o := o) (by simpa using h)
    simp only [selS, List.length_map] at ih
    simp only [selB, selS, List.filter_cons]
    by_cases hq : q x = true
    · rw [if_pos hq, if_pos hq]; simp [ih]
    · rw [if_neg hq, if_neg hq]; simp [ih]
theorem selS_le (q : Sh4 → Bool) (f : Sh4 → Sh4) (l : List Sh4) : (selS q f l).length ≤ l.length := by
  rw [selS, List.length_map]; exact List.length_filter_le _ _
theorem wntS_is : ∀ (l : List Sh4) (o : List Bool), wntS (l.map Sh4.shw) o = selB (fun s => decide (2 ≤ s.d)) l o
  | [], _ => by simp [wntS, selB]
  | _ :: _, [] => rfl
  | x :: r, y :: o => by
    have ih := wntS_is r o
    have e : (2 ≤ x.shw.a) ↔ decide (2 ≤ x.d) = true := by rw [decide_eq_true_eq]; exact Iff.rfl
    simp only [List.map_cons, wntS, selB, ih]
    by_cases hk : 2 ≤ x.shw.a
    · rw [if_pos hk, if_pos (e.1 hk)]
    · rw [if_neg hk, if_neg (fun h2 => hk (e.2 h2))]
theorem kptS_is : ∀ (l : List Sh4), kptS (l.map Sh4.shw) = (selS (fun s => decide (2 ≤ s.d)) id l).map Sh4.shw
  | [] => rfl
  | x :: r => by
    have ih := kptS_is r
    simp only [kptS, selS] at ih ⊢
    rw [List.map_cons, List.filter_cons, List.filter_cons]
    by_cases hk : 2 ≤ x.d
    · rw [if_pos (show decide (2 ≤ x.shw.a) = true from decide_eq_true hk), if_pos (decide_eq_true hk), List.map_cons, List.map_cons, ih]; rfl
    · rw [if_neg (show ¬ decide (2 ≤ x.shw.a) = true by rw [decide_eq_true_eq]; exact hk), if_neg (by rw [decide_eq_true_eq]; exact hk), ih]
end
theorem OwnRows.ne' {α β : Type} {E E' : TypeId} {C C' : Nat} {f : α → List Value} {f' : β → List Value} {w : World} {b b' : Nat} {A B : Option Addr} {c c' : Nat} {l : List α} {l' : List β} (hE : E ≠ E') (h : OwnRows E C f w b A c l) (h' : OwnRows E' C' f' w b' B c' l') : blockOf B = none ∨ blockOf B ≠ blockOf A := by
  by_cases hB : blockOf B = none
  · exact .inl hB
  refine .inr fun e => ?_
  rcases h'.2 with ⟨hv, _⟩ | ⟨g, cap, cur, hv, _, hh, _⟩
  · injection hv with h1 _ _
    rw [h1] at hB; exact hB rfl
  injection hv with h1 _ _
  rw [h1] at e
  rcases h.2 with ⟨hv2, _⟩ | ⟨g2, cap2, cur2, hv2, _, hh2, _⟩
  · injection hv2 with h2 _ _
    rw [h2] at e; cases e
  · injection hv2 with h2 _ _
    rw [h2] at e
    cases e
    rw [hh] at hh2
    cases hh2
    exact hE rfl
def set3 (s : Sh4) : Sh4 := { s with d := 3 }
/-- showings whose last integer is filled in -/
def fill3 (l : List Sh4) (j : Nat) : List Sh4 := (l.take j).map set3 ++ l.drop j
theorem fill3_all (l : List Sh4) : fill3 l l.length = l.map set3 := by simp [fill3]
theorem fill3_at {l : List Sh4} {j : Nat} {s : Sh4} (h : l[j]? = some s) : (fill3 l j)[j]? = some s := by
  have hj := (List.getElem?_eq_some_iff.1 h).1
  unfold fill3
  rw [List.getElem?_append_right (by rw [List.length_map, List.length_take]; omega), List.length_map, List.length_take, show j - min j l.length = 0 by omega, List.getElem?_drop, Nat.add_zero, h]
theorem fill3_set {l : List Sh4} {j : Nat} {s : Sh4} (h : l[j]? = some s) : (fill3 l j).set j (set3 s) = fill3 l (j + 1) := by
  obtain ⟨hj, rfl⟩ := List.getElem?_eq_some_iff.1 h
  unfold fill3
  rw [List.set_append_right _ _ (by rw [List.length_map, List.length_take]; omega), List.length_map, List.length_take, show j - min j l.length = 0 by omega, List.drop_eq_getElem_cons hj, List.set_cons_zero, List.take_add_one, List.getElem?_eq_getElem hj, List.map_append, List.append_assoc]
  rfl
def BlkS (w : World) (g : Nat) (l : List Sh4) : Prop := Blk w g (l.flatMap Sh4.cells).toArray
theorem BlkS.at {w : World} {g : Nat} {l : List Sh4} (h : BlkS w g l) {i : Nat} {s : Sh4} (hi : l[i]? = some s) {j : Nat} {v : Value} (hj : s.cells[j]? = some v) : Cel w g (i * 4 + j) v := by
  have hlt : j < 4 := by
    rcases Nat.lt_or_ge j 4 with h1 | h1
    · exact h1
    · rw [List.getElem?_eq_none (by rw [sh4_len]; exact h1)] at hj; cases hj
  refine h _ v ?_
  rw [List.getElem?_toArray, flat_get sh4_len l i j s hlt hi]; exact hj
theorem BlkS.put {w : World} {g : Nat} {l : List Sh4} (h : BlkS w g l) {i : Nat} {s : Sh4} (hi : l[i]? = some s) : BlkS (w.setCell ⟨g, i * 4 + 3, none⟩ (.int .i64 3)) g (l.set i (set3 s)) := fun k v hv => by
  have hlt := (List.getElem?_eq_some_iff.1 hi).1
  rw [List.getElem?_toArray] at hv
  obtain ⟨i', j, z, hj, hz, rfl, hu⟩ := flat_split sh4_len _ k v hv
  rw [List.getElem?_set] at hz
  by_cases e : i = i'
  · subst e
    rw [if_pos rfl, if_pos hlt] at hz
    have : set3 s = z := Option.some.inj hz
    subst this
    by_cases e3 : j = 3
    · subst e3
      have : Value.int .i64 3 = v := by simpa [Sh4.cells, set3] using hu
      subst this
      exact (h.at hi (j := 3) rfl).same _
    · have hv2 : s.cells[j]? = some v := by
        rw [← hu]
        have : j = 0 ∨ j = 1 ∨ j = 2 := by omega
        rcases this with rfl | rfl | rfl <;> rfl
      exact (h.at hi hv2).near (by omega) _
  · rw [if_neg e] at hz
    exact (h.at hz hu).near (by omega) _
theorem BlkS.shows {w : World} {g : Nat} {l : List Sh4} (h : BlkS w g l) : Shows w (some ⟨g, 0, none⟩) l := fun i s hi => by
  refine ⟨g, 0, s.cells, rfl, (h.at hi (j := 0) rfl).lt, sh4_len s, fun j hj => ?_, rfl⟩
  rw [Nat.zero_add, (h.at hi (List.getElem?_eq_getElem (by rw [sh4_len]; exact hj))).at, List.getElem?_eq_getElem]
theorem OwnS.blk {w : World} {base : Nat} {A : Option Addr} {c : Nat} {l : List Sh4} (h : OwnS w base A c l) (hb : base ≤ w.heap.size) : ∃ g, base ≤ g ∧ (l ≠ [] → A = some ⟨g, 0, none⟩) ∧ BlkS w g l := by
  rcases h.2 with ⟨hv, hn⟩ | ⟨g, cap, cur, hv, hg, hh, hnc, hm, hs, ht⟩
  · have : l = [] := List.eq_nil_of_length_eq_zero hn
    subst this
    exact ⟨w.heap.size, hb, fun h => absurd rfl h, fun o v hv => by simp at hv⟩
  · injection hv with h1 _ _
    refine ⟨g, hg, fun _ => h1, fun o v hv2 => ?_⟩
    have ho : o < l.length * 4 := by
      rcases Nat.lt_or_ge o (l.length * 4) with h3 | h3
      · exact h3
      · rw [Array.getElem?_eq_none (by simp [flat_len sh4_len]; exact h3)] at hv2; cases hv2
    refine ⟨lt_of_block hh, ?_, frozen_of_row _ _ _ _ _ hh⟩
    rw [cell_of_row _ _ _ _ _ _ hh]
    rw [List.getElem?_toArray, ← ht, List.getElem?_take_of_lt ho] at hv2
    rw [← Array.getElem?_toList]; exact hv2
theorem power_plain {ls : List Lk} {cs : List Crd} {ss : List Sh4} (h : runB ls cs ss = true) :
    (runB ls cs (selS (fun s => decide (2 ≤ s.d)) id ss) = true ∧ runW ls cs (selS (fun s => decide (2 ≤ s.d)) id ss) = selB (fun s => decide (2 ≤ s.d)) ss (runW ls cs ss) ∧ ∀ (i : Nat) (s : Sh4) (o : Bool), ss[i]? = some s → (runW ls cs ss)[i]? = some o → ¬ 2 ≤ s.d → o = false) ∧
    runB ls cs ((selS (fun s => decide (2 ≤ s.d)) id ss).map set3) = true ∧ ∀ (i : Nat) (s : Sh4), (selS (fun s => decide (2 ≤ s.d)) id ss)[i]? = some s → (s.d = 2 ∨ s.d = 3) ∧ ∃ b, (runW ls cs ((selS (fun s => decide (2 ≤ s.d)) id ss).map set3))[i]? = some b ∧ (selB (fun s => decide (2 ≤ s.d)) ss (runW ls cs ss))[i]? = some (decide (s.d = 3) && b) := by
  obtain ⟨hv, hc, hg⟩ := run_good h
  have hgk : ∀ s ∈ selS (fun s => decide (2 ≤ s.d)) id ss, GoodS ls.length cs.length s ∧ 2 ≤ s.d := fun s hs => by
    obtain ⟨x, hx, rfl⟩ := List.mem_map.1 hs
    have := List.mem_filter.1 hx
    exact ⟨hg _ this.1, by simpa using this.2⟩
  have hB : runB ls cs (selS (fun s => decide (2 ≤ s.d)) id ss) = true := by
    have h2 : noneW ls.length cs.length (selS (fun s => decide (2 ≤ s.d)) id ss) = true := none_iff.2 fun s hs => (hgk s hs).1
    rw [runB, lks_iff.2 hv, hc, h2]; rfl
  have hB2 : runB ls cs ((selS (fun s => decide (2 ≤ s.d)) id ss).map set3) = true := by
    have h2 : noneW ls.length cs.length ((selS (fun s => decide (2 ≤ s.d)) id ss).map set3) = true := none_iff.2 fun s hs => by
      obtain ⟨x, hx, rfl⟩ := List.mem_map.1 hs
      have g := (hgk x hx).1
      exact ⟨g.a0, g.a1, g.b0, g.b1, by simp [set3], by simp [set3], g.t⟩
    rw [runB, lks_iff.2 hv, hc, h2]; rfl
  have hi : ∀ (l : List Sh4), (∀ s ∈ l, GoodS ls.length cs.length s) → ∀ x ∈ l.map Sh4.shw, x.i < ls.length ∧ 0 ≤ x.a ∧ x.a ≤ 3 := fun l hl x hx => by
    obtain ⟨y, hy, rfl⟩ := List.mem_map.1 hx
    have g := hl y hy
    have a0 := g.a0; have a1 := g.a1
    exact ⟨by show y.a.toNat < _; omega, g.d0, g.d1⟩
  obtain ⟨p1, p2⟩ := power_run cs (ss.map Sh4.shw) ls ls (RLeq.refl hv) (hi ss hg)
  rw [wntS_is, kptS_is] at p1
  have e1 : runW ls cs (selS (fun s => decide (2 ≤ s.d)) id ss) = selB (fun s => decide (2 ≤ s.d)) ss (runW ls cs ss) := by rw [(ran hB).1, (ran h).1]; exact p1.symm
  refine ⟨⟨hB, e1, fun i s o h1 h2 h3 => ?_⟩, hB2, fun i s h1 => ?_⟩
  · rw [(ran h).1] at h2
    have := p2 i s.shw (by rw [List.getElem?_map, h1]; rfl) (by show s.d < 2; omega)
    rw [h2] at this
    exact Option.some.inj this
  · have g := hgk s (List.mem_of_getElem? h1)
    have g1 := g.1.d1
    have g2 := g.2
    obtain ⟨b, b1, b2⟩ := whole_run cs ((selS (fun s => decide (2 ≤ s.d)) id ss).map Sh4.shw) ls ls (RLeq.refl hv) (fun x hx => by
      have := hi _ (fun s hs => (hgk s hs).1) x hx
      obtain ⟨y, hy, rfl⟩ := List.mem_map.1 hx
      exact ⟨this.1, (hgk y hy).2, this.2.2⟩) i s.shw (by rw [List.getElem?_map, h1]; rfl)
    refine ⟨by omega, b, ?_, ?_⟩
    · rw [(ran hB2).1, List.map_map]
      have : whlS ((selS (fun s => decide (2 ≤ s.d)) id ss).map Sh4.shw) = (selS (fun s => decide (2 ≤ s.d)) id ss).map (Sh4.shw ∘ set3) := by rw [whlS, List.map_map]; rfl
      rw [← this]; exact b1
    · rw [← e1, (ran hB).1]; exact b2
end Go.Proofs.YtclgncaghiinhaaDoor
