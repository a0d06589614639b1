/- Words for memory: slices of integers that are read, and how they last while memory grows. -/
import Derived.Test.YtclgncaghiinhaaGreatDoorChecked
import Derived.WalkKit
import Derived.WalkSpells
import Derived.WalkLawsBesides
import Derived.Deep.QuietTactic
import Derived.BigQuiet
import Derived.BigGuardPart
import Derived.Lib.Hide
import Derived.Below
import Derived.IntWalk
import Derived.Laws.Rows
import Derived.OneCell
import Derived.Outline
import Derived.Deep.RegionHeld3
import Derived.Deep.RegionWith
import Derived.Maps.AppendAt
import Derived.Deep.AppendLies
import Derived.Laws.OwnMore
import Derived.OwnWalk
set_option linter.unusedSimpArgs false
set_option linter.unusedVariables false
set_option maxRecDepth 100000
namespace Go.Proofs.YtclgncaghiinhaaGreatDoor
open Go.RowKit
section
theorem newAt {w : World} {o : Obj} {b : Nat} (hb : w.heap.size = b) : (w.alloc o).heap[b]? = some o := by
 subst hb; exact heap_alloc_new w o
theorem bcell {W w1 : World} (hb : Below W.heap.size W w1) : (∀ b o, b < W.heap.size → w1.cell? ⟨b, o, none⟩ = W.cell? ⟨b, o, none⟩) ∧ (∀ b o, b < W.heap.size → w1.frozen? ⟨b, o, none⟩ = W.frozen? ⟨b, o, none⟩) :=
 ⟨fun b o h => hb.cell (p := ⟨b, o, none⟩) h, fun b o h => hb.frozen (p := ⟨b, o, none⟩) h⟩
theorem ext_mk {w0 W : World} (h : Below w0.heap.size w0 W) : (∀ b o, b < w0.heap.size → W.cell? ⟨b, o, none⟩ = w0.cell? ⟨b, o, none⟩) ∧ Below w0.heap.size w0 W :=
 ⟨fun b o hb => h.cell (p := ⟨b, o, none⟩) hb, h⟩
theorem keepc {W w1 : World} {b o : Nat} {v : Value} (hb : Below W.heap.size W w1) (hlt : b < W.heap.size) (h : W.cell? ⟨b, o, none⟩ = some v) : w1.cell? ⟨b, o, none⟩ = some v :=
 (hb.cell (p := ⟨b, o, none⟩) hlt).trans h
theorem keepf {W w1 : World} {b o : Nat} (hb : Below W.heap.size W w1) (hlt : b < W.heap.size) (h : W.frozen? ⟨b, o, none⟩ = false) : w1.frozen? ⟨b, o, none⟩ = false :=
 (hb.frozen (p := ⟨b, o, none⟩) hlt).trans h
theorem ret_bool {a b : Bool} (h : a = b) : Ending.returned (.bool a) = .returned (.bool b) := by rw [h]
theorem ret_int {k : IntKind} {a b : Int} (h : a = b) : Ending.returned (.int k a) = .returned (.int k b) := by rw [h]
/-- the slice over A holds the integers l, each in a cell of a block that is there -/
def IntsAt (w : World) (A : Option Addr) (k : IntKind) (l : List Int) : Prop :=
 ∀ i, i < l.length → ∃ b off, A = some ⟨b, off, none⟩ ∧ b < w.heap.size ∧ w.cell? ⟨b, off + i, none⟩ = some (.int k (l.getD i 0))
section
variable {w w' : World} {A : Option Addr} {k : IntKind} {l : List Int}
theorem IntsAt.nil : IntsAt w A k [] := fun i hi => absurd hi (by simp)
theorem IntsAt.keep (h : IntsAt w A k l) (hs : w.heap.size ≤ w'.heap.size) (hk : ∀ b o n, b < w.heap.size → w.cell? ⟨b, o, none⟩ = some (.int k n) → w'.cell? ⟨b, o, none⟩ = some (.int k n)) : IntsAt w' A k l := fun i hi => by
 obtain ⟨b, off, e, hb, hc⟩ := h i hi
 exact ⟨b, off, e, by omega, hk b _ _ hb hc⟩
theorem IntsAt.below (h : IntsAt w A k l) (hb : Below w.heap.size w w') : IntsAt w' A k l :=
 h.keep hb.size fun b o n hlt hc => (hb.cell (p := ⟨b, o, none⟩) hlt).trans hc
theorem IntsAt.alloc (h : IntsAt w A k l) (o : Obj) : IntsAt (w.alloc o) A k l := h.below ((Below.refl _ _).alloc (Nat.le_refl _) o)
theorem IntsAt.take (h : IntsAt w A k l) (j : Nat) : IntsAt w A k (l.take j) := fun i hi => by
 have hi' : i < l.length ∧ i < j := by simp at hi; omega
 obtain ⟨b, off, e, hb, hc⟩ := h i hi'.1
 refine ⟨b, off, e, hb, ?_⟩
 rw [hc]
 simp [List.getD_eq_getElem?_getD, List.getElem?_take, hi'.2]
end
theorem grown_refl (w : World) (r : Option Nat) : w.grownBy w r := World.grownBy.refl w r
theorem grown_drewN {a w : World} {r : Option Nat} (h : a.grownBy w r) (n : Nat) : a.grownBy (w.drewN n) r := ⟨h.os, h.tape, h.output, h.size, h.block⟩
theorem grown_drew {a w : World} {r : Option Nat} (h : a.grownBy w r) : a.grownBy w.drew r := ⟨h.os, h.tape, h.output, h.size, h.block⟩
theorem grown_set {a w : World} {g : Nat} (h : a.grownBy w (some g)) (o : Nat) (u : Value) : a.grownBy (w.setCell ⟨g, o, none⟩ u) (some g) :=
 ⟨h.os, h.tape, h.output, by simpa [World.setCell] using h.size, fun i hi hne => (Below.heap_setCell w ⟨g, o, none⟩ u i (by rintro rfl; exact hne rfl)).trans (h.block i hi hne)⟩
theorem grown_of_below {a w : World} (h : Below a.heap.size a w) (r : Option Nat) : a.grownBy w r := ⟨h.os, h.tape, h.output, h.size, fun i hi _ => h.block i hi⟩
theorem below_of_grown {B : Nat} {a w : World} {g : Nat} (h : a.grownBy w (some g)) (hB : B ≤ a.heap.size) (hg : B ≤ g) : Below B a w :=
 ⟨h.os, h.tape, h.output, h.size, fun i hi => h.block i (by omega) (by simp; omega)⟩
theorem below_of_grown_none {a w : World} (h : a.grownBy w none) : Below a.heap.size a w := ⟨h.os, h.tape, h.output, h.size, fun i hi => h.block i hi (by simp)⟩
theorem grown_then {a b c : World} {row row' : Option Nat} (h : a.grownBy b row) (k : b.grownBy c row') (hr : row' = row ∨ ∃ g, row' = some g ∧ a.heap.size ≤ g) : a.grownBy c row :=
 ⟨k.os.trans h.os, k.tape.trans h.tape, k.output.trans h.output, Nat.le_trans h.size k.size, fun i hi hne => (k.block i (Nat.lt_of_lt_of_le hi h.size) (by
  rcases hr with rfl | ⟨g, rfl, hg⟩
  ·exact hne
  ·simp; omega)).trans (h.block i hi hne)⟩
/-- the slice over A, of capacity c, is the call's own row of the integers l, in a block from base on -/
def OwnInts (w : World) (base : Nat) (E : TypeId) (k : IntKind) (A : Option Addr) (c : Nat) (l : List Int) : Prop :=
 w.ownsRow base E 1 (.slice A l.length c) l.length (l.map (Value.int k))
def blockOf (A : Option Addr) : Option Nat := A.map (·.block)
theorem ownBlock_slice (A : Option Addr) (n c : Nat) : Value.ownBlock (.slice A n c) = blockOf A := by cases A <;> rfl
section
variable {w w' : World} {base : Nat} {E : TypeId} {k : IntKind} {A : Option Addr} {c : Nat} {l : List Int}
theorem OwnInts.nil (w : World) (base : Nat) (E : TypeId) (k : IntKind) : OwnInts w base E k none 0 [] := World.ownsRow_nil w base E 1
theorem OwnInts.kept {row : Option Nat} (h : OwnInts w base E k A c l) (hg : w.grownBy w' row) (hne : blockOf A = none ∨ blockOf A ≠ row) : OwnInts w' base E k A c l :=
 World.ownsRow.kept h hg (by rw [ownBlock_slice]; exact hne)
theorem OwnInts.alloc (h : OwnInts w base E k A c l) (o : Obj) : OwnInts (w.alloc o) base E k A c l := World.ownsRow.alloc h o
theorem OwnInts.drew (h : OwnInts w base E k A c l) : OwnInts w.drew base E k A c l := h
theorem OwnInts.set (h : OwnInts w base E k A c l) {p : Addr} (hp : p.block < base) (v : Value) : OwnInts (w.setCell p v) base E k A c l :=
 ownsRow_setCell_below h hp v
theorem OwnInts.lt (h : OwnInts w base E k A c l) : ∀ g, blockOf A = some g → base ≤ g ∧ g < w.heap.size := fun g hg =>
 World.ownsRow.lt h g (by rw [ownBlock_slice]; exact hg)
theorem OwnInts.below (h : OwnInts w base E k A c l) (hb : Below w.heap.size w w') : OwnInts w' base E k A c l :=
 h.kept (grown_of_below hb none) (by cases h' : blockOf A <;> simp)
theorem OwnInts.cap (h : OwnInts w base E k A c l) : l.length ≤ c := by
 rcases h.2 with ⟨hv, hn⟩ | ⟨g, cap, cur, hv, _, _, hnc, _⟩
 ·injection hv with _ _ hc; omega
 ·injection hv with _ _ hc; omega
theorem OwnInts.ints (h : OwnInts w base E k A c l) : IntsAt w A k l := fun i hi => by
 rcases h.2 with ⟨hv, hn⟩ | ⟨g, cap, cur, hv, hb, hh, hnc, hm, hs, ht⟩
 ·omega
 ·injection hv with hA _ _
  subst hA
  have hlt : g < w.heap.size := lt_of_block hh
  refine ⟨g, 0, rfl, hlt, ?_⟩
  rw [Nat.zero_add, cell_of_row w g i cur E (0, 0) hh]
  have h1 : (cur.toList.take (l.length * 1))[i]? = (l.map (Value.int k))[i]? := by rw [ht]
  rw [List.getElem?_take_of_lt (by omega)] at h1
  simp only [Array.getElem?_toList] at h1
  rw [h1]
  simp [List.getD_eq_getElem?_getD, hi]
end
theorem OwnInts.grow {w0 w w' : World} {E : TypeId} {k : IntKind} {A : Option Addr} {c : Nat} {l : List Int} (h : OwnInts w w0.heap.size E k A c l) (hb : Below w0.heap.size w0 w) (hg : w.grownBy w' (blockOf A)) : Below w0.heap.size w0 w' :=
 hb.grown hg hb.size fun g hg => (h.lt g hg).1
section
variable {P : Program} (w : World)
theorem run_app_none (base : Nat) (t ty e : TypeId) (i : TypeInfo) (ht : P.underlying t = some (.slice e)) (hi : P.info? e = some i)
  (v : Value) (n : Nat) (xs : List Value) (hown : w.ownsRow base e 1 v n xs) (c : Nat) : (Builtin.append_ #[t, t] ty #[v, .slice none 0 c]).run P w = .ok v w := by
 rcases hown.2 with ⟨rfl, rfl⟩ | ⟨g, cap, cur, rfl, _, _, hnc, _⟩
 ·simp [Builtin.append_, run_underlying ht, sizeOf, typeInfo, hi, Builtin.lenOf, Builtin.firstCells]
 ·simp [Builtin.append_, run_underlying ht, sizeOf, typeInfo, hi, Builtin.lenOf, Builtin.firstCells, hnc, storeCells]
theorem ints_one (k : IntKind) (l : List Int) : ∀ u ∈ l.map (Value.int k), u.oneCell' = true := by
 intro u hu
 obtain ⟨x, _, rfl⟩ := List.mem_map.1 hu
 rfl
theorem run_app_ints (base : Nat) (t ty e : TypeId) (i : TypeInfo) (z : Value) (bytes : Nat) (ht : P.underlying t = some (.slice e)) (hi : P.info? e = some i) (hz : i.zero = some z)
    (hsize : i.size = 1) (hby : i.bytes = bytes) (hzs : z.cells.size = 1) (k : IntKind) (A : Option Addr) (c : Nat) (l : List Int) (hown : OwnInts w base e k A c l)
    (B : Option Addr) (cc : Nat) (l2 : List Int) (hr : IntsAt w B k l2) (h63 : l.length + l2.length ≤ 9223372036854775807) (hb : (l.length + l2.length) * bytes ≤ 140737488355328) (hbase : base ≤ w.heap.size) :
    ∃ A' c' w', (Builtin.append_ #[t, t] ty #[.slice A l.length c, .slice B l2.length cc]).run P w = .ok (.slice A' (l ++ l2).length c') w' ∧ OwnInts w' base e k A' c' (l ++ l2) ∧ w.grownBy w' (blockOf A) ∧
      (blockOf A' = blockOf A ∨ blockOf A' = some w.heap.size) := by
  rcases B with _ | ad
  · have hl : l2 = [] := by
      cases l2 with
      | nil => rfl
      | cons x r => obtain ⟨b, off, h, _⟩ := hr 0 (by simp); cases h
    subst hl
    exact ⟨A, c, w, by simpa using run_app_none w base t ty e i ht hi _ _ _ hown cc, by simpa using hown, grown_refl _ _, .inl rfl⟩
  · have hnews : ∀ j u, (l2.map (Value.int k))[j]? = some u → w.cell? (ad.add j) = some u := by
      intro j u hj
      have hlt : j < l2.length := by
        rcases Nat.lt_or_ge j l2.length with h | h
        · exact h
        · rw [List.getElem?_eq_none (by simpa using h)] at hj; cases hj
      obtain ⟨b, off, h, _, hc⟩ := hr j hlt
      injection h with h
      subst h
      have hu : u = .int k (l2.getD j 0) := by simpa [List.getD_eq_getElem?_getD, hlt] using hj.symm
      rw [hu, ← hc]
      unfold Addr.add
      split
      · rename_i h0; rw [h0]; rfl
      · rfl
    obtain ⟨v', w', hr', h2, h3, h4, h5⟩ := run_append_own_at (P := P) w base t ty e i z 1 bytes ht hi hz hsize hby hzs (by decide) (.slice A l.length c) l.length (l.map (Value.int k)) hown ad l2.length cc (l2.map (Value.int k)) (by simp) hnews (ints_one k l2) h63 hb hbase
    rw [← List.map_append, show l.length + l2.length = (l ++ l2).length by simp] at h2
    have hv : ∃ A' c', v' = .slice A' (l ++ l2).length c' := by
      rcases h2.2 with ⟨hv, hn⟩ | ⟨g, cap, cur, hv, _⟩
      · exact ⟨none, 0, by rw [hv, hn]⟩
      · exact ⟨_, cap, hv⟩
    obtain ⟨A', c', rfl⟩ := hv
    rw [ownBlock_slice] at h3 h5
    rw [ownBlock_slice] at h5
    exact ⟨A', c', w', hr', h2, h3, h5⟩
theorem op_app_ints {o : Oper} {a : Act} {K : Act → World → Prop} {Q : Exit → Act → World → Prop} (s x : Operand) (t : TypeId)
  (ho : o.op = .call { callee := .builtin .append, args := #[s, x], argTypes := #[t, t] })
  (base : Nat) (e : TypeId) (i : TypeInfo) (z : Value) (bytes : Nat) (ht : P.underlying t = some (.slice e)) (hi : P.info? e = some i) (hz : i.zero = some z)
  (hsize : i.size = 1) (hby : i.bytes = bytes) (hzs : z.cells.size = 1) (k : IntKind) (A : Option Addr) (c : Nat) (l : List Int) (hs : a.eval s = .slice A l.length c) (hown : OwnInts w base e k A c l)
  (B : Option Addr) (cc : Nat) (l2 : List Int) (hx : a.eval x = .slice B l2.length cc) (hr : IntsAt w B k l2) (h63 : l.length + l2.length ≤ 9223372036854775807) (hb : (l.length + l2.length) * bytes ≤ 140737488355328) (hbase : base ≤ w.heap.size)
  (h : ∀ A' c' w', OwnInts w' base e k A' c' (l ++ l2) → w.grownBy w' (blockOf A) → (blockOf A' = blockOf A ∨ blockOf A' = some w.heap.size) → K (a.put o.dst (.slice A' (l ++ l2).length c')) w') : o.wp P a w K Q := by
 obtain ⟨A', c', w', hrun, h2, h3, h4⟩ := run_app_ints (P := P) w base t o.type e i z bytes ht hi hz hsize hby hzs k A c l hown B cc l2 hr h63 hb hbase
 unfold Oper.wp execOp
 simp only [ho, resolve, invoke, builtin, Sem.run_bind, Sem.run_pure, Result.andThen_ok, List.map_toArray, List.map_cons, List.map_nil, hs, hx, hrun]
 exact h A' c' w' h2 h3 h4
theorem wp_app_ints {ops : Array Oper} {rest : List Oper} {o : Oper} {a : Act} {Q : Exit → Act → World → Prop} (hgd : o.guard = none) (s x : Operand) (t : TypeId)
  (ho : o.op = .call { callee := .builtin .append, args := #[s, x], argTypes := #[t, t] })
  (base : Nat) (e : TypeId) (i : TypeInfo) (z : Value) (bytes : Nat) (ht : P.underlying t = some (.slice e)) (hi : P.info? e = some i) (hz : i.zero = some z)
  (hsize : i.size = 1) (hby : i.bytes = bytes) (hzs : z.cells.size = 1) (k : IntKind) (A : Option Addr) (c : Nat) (l : List Int) (hs : a.eval s = .slice A l.length c) (hown : OwnInts w base e k A c l)
  (B : Option Addr) (cc : Nat) (l2 : List Int) (hx : a.eval x = .slice B l2.length cc) (hr : IntsAt w B k l2) (h63 : l.length + l2.length ≤ 9223372036854775807) (hb : (l.length + l2.length) * bytes ≤ 140737488355328) (hbase : base ≤ w.heap.size)
  (h : ∀ A' c' w', OwnInts w' base e k A' c' (l ++ l2) → w.grownBy w' (blockOf A) → (blockOf A' = blockOf A ∨ blockOf A' = some w.heap.size) → wpList P ops Q rest (a.put o.dst (.slice A' (l ++ l2).length c')) w') : wpList P ops Q (o :: rest) a w :=
 wpList_plain hgd fun _ hK => op_app_ints w s x t ho base e i z bytes ht hi hz hsize hby hzs k A c l hs hown B cc l2 hx hr h63 hb hbase fun A' c' w' h2 h3 h4 => hK _ _ (h A' c' w' h2 h3 h4)
/-- the same with the lengths under names of their own -/
theorem wp_app_at {ops : Array Oper} {rest : List Oper} {o : Oper} {a : Act} {Q : Exit → Act → World → Prop} (hgd : o.guard = none) (s x : Operand) (t : TypeId)
  (ho : o.op = .call { callee := .builtin .append, args := #[s, x], argTypes := #[t, t] })
  (base : Nat) (e : TypeId) (i : TypeInfo) (z : Value) (bytes : Nat) (ht : P.underlying t = some (.slice e)) (hi : P.info? e = some i) (hz : i.zero = some z)
  (hsize : i.size = 1) (hby : i.bytes = bytes) (hzs : z.cells.size = 1) (k : IntKind) (A : Option Addr) (c n : Nat) (l : List Int) (hln : l.length = n) (hs : a.eval s = .slice A n c) (hown : OwnInts w base e k A c l)
  (B : Option Addr) (cc m : Nat) (l2 : List Int) (hlm : l2.length = m) (hx : a.eval x = .slice B m cc) (hr : IntsAt w B k l2) (h63 : n + m ≤ 9223372036854775807) (hb : (n + m) * bytes ≤ 140737488355328) (hbase : base ≤ w.heap.size)
  (h : ∀ A' c' w', OwnInts w' base e k A' c' (l ++ l2) → w.grownBy w' (blockOf A) → (blockOf A' = blockOf A ∨ blockOf A' = some w.heap.size) → wpList P ops Q rest (a.put o.dst (.slice A' (n + m) c')) w') : wpList P ops Q (o :: rest) a w := by
 subst hln hlm
 exact wp_app_ints w hgd s x t ho base e i z bytes ht hi hz hsize hby hzs k A c l hs hown B cc l2 hx hr h63 hb hbase fun A' c' w' h2 h3 h4 => by rw [List.length_append]; exact h A' c' w' h2 h3 h4
/-- the one new cell of an append of one element -/
theorem ints_new1 (w : World) (k : IntKind) (x : Int) (t : TypeId) (n : Nat) (hn : w.heap.size = n) : IntsAt (w.alloc (.cells #[.int k x] t)) (some ⟨n, 0, none⟩) k [x] := by
 subst hn
 intro i hi
 have h0 : i = 0 := by simpa using hi
 subst h0
 refine ⟨w.heap.size, 0, rfl, by simp, ?_⟩
 rw [cell_of_row _ _ _ _ _ _ (heap_alloc_new w _)]
 rfl
end
theorem belt {p : Prop} (h : p := by
 (repeat (first | with_reducible exact Below.refl _ _ | with_reducible exact Nat.le_refl _ | with_reducible assumption | with_reducible refine Below.drew ?_ | with_reducible refine below_drewN ?_ _ | with_reducible refine Below.alloc ?_ ?_ _ | with_reducible refine Below.setCell ?_ ?_ _ | with_reducible exact And.right (by assumption) | with_reducible refine Below.trans ?_ (Below.mono (by assumption) ?_) | with_reducible exact Below.size (And.right (by assumption)) | (focus omega) | (focus (simp; done)) | (focus (simp; omega)) | (focus (simp at *; omega))))) : p := h
theorem omg {p : Prop} (h : p := by
 first | omega | (simp; done) | (simp; omega)) : p := h
theorem omh {p : Prop} (h : p := by
 first | exact Nat.le_refl _ | omega | (simp; done) | (simp; omega)) : p := h
theorem apz : (∀ (a : Act) (t : Tmp) (v : Value), a.put (some t) v = { a with tmps := a.tmps.setIfInBounds t v }) ∧ (∀ (a : Act) (v : Value), a.put none v = a) ∧ (∀ (l : List Value) (i : Nat) (v : Value), l.toArray.setIfInBounds i v = (l.set i v).toArray) ∧ (∀ (x v : Value) (l : List Value), (x :: l).set 0 v = v :: l) ∧ (∀ (x v : Value) (l : List Value) (n : Nat), (x :: l).set (n + 1) v = x :: l.set n v) := ⟨fun _ _ _ => rfl, fun _ _ => rfl, fun l i v => by simp, fun _ _ _ => rfl, fun _ _ _ _ => rfl⟩
theorem hid2 {p0 p1 : Prop} (h0 : p0) (h1 : p1) : Hid p0 ∧ Hid p1 := ⟨h0, h1⟩
theorem hid3 {p0 p1 p2 : Prop} (h0 : p0) (h1 : p1) (h2 : p2) : Hid p0 ∧ Hid p1 ∧ Hid p2 := ⟨h0, h1, h2⟩
theorem hid4 {p0 p1 p2 p3 : Prop} (h0 : p0) (h1 : p1) (h2 : p2) (h3 : p3) : Hid p0 ∧ Hid p1 ∧ Hid p2 ∧ Hid p3 := ⟨h0, h1, h2, h3⟩
theorem hid5 {p0 p1 p2 p3 p4 : Prop} (h0 : p0) (h1 : p1) (h2 : p2) (h3 : p3) (h4 : p4) : Hid p0 ∧ Hid p1 ∧ Hid p2 ∧ Hid p3 ∧ Hid p4 := ⟨h0, h1, h2, h3, h4⟩
theorem hid6 {p0 p1 p2 p3 p4 p5 : Prop} (h0 : p0) (h1 : p1) (h2 : p2) (h3 : p3) (h4 : p4) (h5 : p5) : Hid p0 ∧ Hid p1 ∧ Hid p2 ∧ Hid p3 ∧ Hid p4 ∧ Hid p5 := ⟨h0, h1, h2, h3, h4, h5⟩
theorem hid7 {p0 p1 p2 p3 p4 p5 p6 : Prop} (h0 : p0) (h1 : p1) (h2 : p2) (h3 : p3) (h4 : p4) (h5 : p5) (h6 : p6) : Hid p0 ∧ Hid p1 ∧ Hid p2 ∧ Hid p3 ∧ Hid p4 ∧ Hid p5 ∧ Hid p6 := ⟨h0, h1, h2, h3, h4, h5, h6⟩
theorem hid8 {p0 p1 p2 p3 p4 p5 p6 p7 : Prop} (h0 : p0) (h1 : p1) (h2 : p2) (h3 : p3) (h4 : p4) (h5 : p5) (h6 : p6) (h7 : p7) : Hid p0 ∧ Hid p1 ∧ Hid p2 ∧ Hid p3 ∧ Hid p4 ∧ Hid p5 ∧ Hid p6 ∧ Hid p7 := ⟨h0, h1, h2, h3, h4, h5, h6, h7⟩
theorem kc2 {W w1 : World} (h : Below W.heap.size W w1) (b : Nat) {v0 v1 : Value} (hl : b < W.heap.size := by
 first | omega | (simp; done) | (simp; omega)) (c0 : W.cell? ⟨b, 0, none⟩ = some v0 := by go_simp; with_reducible rfl) (c1 : W.cell? ⟨b, 1, none⟩ = some v1 := by go_simp; with_reducible rfl) : w1.cell? ⟨b, 0, none⟩ = some v0 ∧ w1.cell? ⟨b, 1, none⟩ = some v1 := ⟨keepc h hl c0, keepc h hl c1⟩
theorem kc4 {W w1 : World} (h : Below W.heap.size W w1) (b : Nat) {v0 v1 v2 v3 : Value} (hl : b < W.heap.size := by
 first | omega | (simp; done) | (simp; omega)) (c0 : W.cell? ⟨b, 0, none⟩ = some v0 := by go_simp; with_reducible rfl) (c1 : W.cell? ⟨b, 1, none⟩ = some v1 := by go_simp; with_reducible rfl) (c2 : W.cell? ⟨b, 2, none⟩ = some v2 := by go_simp; with_reducible rfl) (c3 : W.cell? ⟨b, 3, none⟩ = some v3 := by go_simp; with_reducible rfl) : w1.cell? ⟨b, 0, none⟩ = some v0 ∧ w1.cell? ⟨b, 1, none⟩ = some v1 ∧ w1.cell? ⟨b, 2, none⟩ = some v2 ∧ w1.cell? ⟨b, 3, none⟩ = some v3 := ⟨keepc h hl c0, keepc h hl c1, keepc h hl c2, keepc h hl c3⟩
theorem kc9 {W w1 : World} (h : Below W.heap.size W w1) (b : Nat) {v0 v1 v2 v3 v4 v5 v6 v7 v8 : Value} (hl : b < W.heap.size := by
 first | omega | (simp; done) | (simp; omega)) (c0 : W.cell? ⟨b, 0, none⟩ = some v0 := by go_simp; with_reducible rfl) (c1 : W.cell? ⟨b, 1, none⟩ = some v1 := by go_simp; with_reducible rfl) (c2 : W.cell? ⟨b, 2, none⟩ = some v2 := by go_simp; with_reducible rfl) (c3 : W.cell? ⟨b, 3, none⟩ = some v3 := by go_simp; with_reducible rfl) (c4 : W.cell? ⟨b, 4, none⟩ = some v4 := by go_simp; with_reducible rfl) (c5 : W.cell? ⟨b, 5, none⟩ = some v5 := by go_simp; with_reducible rfl) (c6 : W.cell? ⟨b, 6, none⟩ = some v6 := by go_simp; with_reducible rfl) (c7 : W.cell? ⟨b, 7, none⟩ = some v7 := by go_simp; with_reducible rfl) (c8 : W.cell? ⟨b, 8, none⟩ = some v8 := by go_simp; with_reducible rfl) : w1.cell? ⟨b, 0, none⟩ = some v0 ∧ w1.cell? ⟨b, 1, none⟩ = some v1 ∧ w1.cell? ⟨b, 2, none⟩ = some v2 ∧ w1.cell? ⟨b, 3, none⟩ = some v3 ∧ w1.cell? ⟨b, 4, none⟩ = some v4 ∧ w1.cell? ⟨b, 5, none⟩ = some v5 ∧ w1.cell? ⟨b, 6, none⟩ = some v6 ∧ w1.cell? ⟨b, 7, none⟩ = some v7 ∧ w1.cell? ⟨b, 8, none⟩ = some v8 := ⟨keepc h hl c0, keepc h hl c1, keepc h hl c2, keepc h hl c3, keepc h hl c4, keepc h hl c5, keepc h hl c6, keepc h hl c7, keepc h hl c8⟩
theorem kf2 {W w1 : World} (h : Below W.heap.size W w1) (b : Nat) {v0 v1 : Value} (hl : b < W.heap.size := by
 first | omega | (simp; done) | (simp; omega)) (c0 : W.cell? ⟨b, 0, none⟩ = some v0 := by go_simp; with_reducible rfl) (f0 : W.frozen? ⟨b, 0, none⟩ = false := by go_simp) (c1 : W.cell? ⟨b, 1, none⟩ = some v1 := by go_simp; with_reducible rfl) (f1 : W.frozen? ⟨b, 1, none⟩ = false := by go_simp) : w1.cell? ⟨b, 0, none⟩ = some v0 ∧ w1.frozen? ⟨b, 0, none⟩ = false ∧ w1.cell? ⟨b, 1, none⟩ = some v1 ∧ w1.frozen? ⟨b, 1, none⟩ = false := ⟨keepc h hl c0, keepf h hl f0, keepc h hl c1, keepf h hl f1⟩
theorem kf4 {W w1 : World} (h : Below W.heap.size W w1) (b : Nat) {v0 v1 v2 v3 : Value} (hl : b < W.heap.size := by
 first | omega | (simp; done) | (simp; omega)) (c0 : W.cell? ⟨b, 0, none⟩ = some v0 := by go_simp; with_reducible rfl) (f0 : W.frozen? ⟨b, 0, none⟩ = false := by go_simp) (c1 : W.cell? ⟨b, 1, none⟩ = some v1 := by go_simp; with_reducible rfl) (f1 : W.frozen? ⟨b, 1, none⟩ = false := by go_simp) (c2 : W.cell? ⟨b, 2, none⟩ = some v2 := by go_simp; with_reducible rfl) (f2 : W.frozen? ⟨b, 2, none⟩ = false := by go_simp) (c3 : W.cell? ⟨b, 3, none⟩ = some v3 := by go_simp; with_reducible rfl) (f3 : W.frozen? ⟨b, 3, none⟩ = false := by go_simp) : w1.cell? ⟨b, 0, none⟩ = some v0 ∧ w1.frozen? ⟨b, 0, none⟩ = false ∧ w1.cell? ⟨b, 1, none⟩ = some v1 ∧ w1.frozen? ⟨b, 1, none⟩ = false ∧ w1.cell? ⟨b, 2, none⟩ = some v2 ∧ w1.frozen? ⟨b, 2, none⟩ = false ∧ w1.cell? ⟨b, 3, none⟩ = some v3 ∧ w1.frozen? ⟨b, 3, none⟩ = false := ⟨keepc h hl c0, keepf h hl f0, keepc h hl c1, keepf h hl f1, keepc h hl c2, keepf h hl f2, keepc h hl c3, keepf h hl f3⟩
theorem kf8 {W w1 : World} (h : Below W.heap.size W w1) (b : Nat) {v0 v1 v2 v3 v4 v5 v6 v7 : Value} (hl : b < W.heap.size := by
 first | omega | (simp; done) | (simp; omega)) (c0 : W.cell? ⟨b, 0, none⟩ = some v0 := by go_simp; with_reducible rfl) (f0 : W.frozen? ⟨b, 0, none⟩ = false := by go_simp) (c1 : W.cell? ⟨b, 1, none⟩ = some v1 := by go_simp; with_reducible rfl) (f1 : W.frozen? ⟨b, 1, none⟩ = false := by go_simp) (c2 : W.cell? ⟨b, 2, none⟩ = some v2 := by go_simp; with_reducible rfl) (f2 : W.frozen? ⟨b, 2, none⟩ = false := by go_simp) (c3 : W.cell? ⟨b, 3, none⟩ = some v3 := by go_simp; with_reducible rfl) (f3 : W.frozen? ⟨b, 3, none⟩ = false := by go_simp) (c4 : W.cell? ⟨b, 4, none⟩ = some v4 := by go_simp; with_reducible rfl) (f4 : W.frozen? ⟨b, 4, none⟩ = false := by go_simp) (c5 : W.cell? ⟨b, 5, none⟩ = some v5 := by go_simp; with_reducible rfl) (f5 : W.frozen? ⟨b, 5, none⟩ = false := by go_simp) (c6 : W.cell? ⟨b, 6, none⟩ = some v6 := by go_simp; with_reducible rfl) (f6 : W.frozen? ⟨b, 6, none⟩ = false := by go_simp) (c7 : W.cell? ⟨b, 7, none⟩ = some v7 := by go_simp; with_reducible rfl) (f7 : W.frozen? ⟨b, 7, none⟩ = false := by go_simp) : w1.cell? ⟨b, 0, none⟩ = some v0 ∧ w1.frozen? ⟨b, 0, none⟩ = false ∧ w1.cell? ⟨b, 1, none⟩ = some v1 ∧ w1.frozen? ⟨b, 1, none⟩ = false ∧ w1.cell? ⟨b, 2, none⟩ = some v2 ∧ w1.frozen? ⟨b, 2, none⟩ = false ∧ w1.cell? ⟨b, 3, none⟩ = some v3 ∧ w1.frozen? ⟨b, 3, none⟩ = false ∧ w1.cell? ⟨b, 4, none⟩ = some v4 ∧ w1.frozen? ⟨b, 4, none⟩ = false ∧ w1.cell? ⟨b, 5, none⟩ = some v5 ∧ w1.frozen? ⟨b, 5, none⟩ = false ∧ w1.cell? ⟨b, 6, none⟩ = some v6 ∧ w1.frozen? ⟨b, 6, none⟩ = false ∧ w1.cell? ⟨b, 7, none⟩ = some v7 ∧ w1.frozen? ⟨b, 7, none⟩ = false := ⟨keepc h hl c0, keepf h hl f0, keepc h hl c1, keepf h hl f1, keepc h hl c2, keepf h hl f2, keepc h hl c3, keepf h hl f3, keepc h hl c4, keepf h hl f4, keepc h hl c5, keepf h hl f5, keepc h hl c6, keepf h hl f6, keepc h hl c7, keepf h hl f7⟩
theorem kf9 {W w1 : World} (h : Below W.heap.size W w1) (b : Nat) {v0 v1 v2 v3 v4 v5 v6 v7 v8 : Value} (hl : b < W.heap.size := by
 first | omega | (simp; done) | (simp; omega)) (c0 : W.cell? ⟨b, 0, none⟩ = some v0 := by go_simp; with_reducible rfl) (f0 : W.frozen? ⟨b, 0, none⟩ = false := by go_simp) (c1 : W.cell? ⟨b, 1, none⟩ = some v1 := by go_simp; with_reducible rfl) (f1 : W.frozen? ⟨b, 1, none⟩ = false := by go_simp) (c2 : W.cell? ⟨b, 2, none⟩ = some v2 := by go_simp; with_reducible rfl) (f2 : W.frozen? ⟨b, 2, none⟩ = false := by go_simp) (c3 : W.cell? ⟨b, 3, none⟩ = some v3 := by go_simp; with_reducible rfl) (f3 : W.frozen? ⟨b, 3, none⟩ = false := by go_simp) (c4 : W.cell? ⟨b, 4, none⟩ = some v4 := by go_simp; with_reducible rfl) (f4 : W.frozen? ⟨b, 4, none⟩ = false := by go_simp) (c5 : W.cell? ⟨b, 5, none⟩ = some v5 := by go_simp; with_reducible rfl) (f5 : W.frozen? ⟨b, 5, none⟩ = false := by go_simp) (c6 : W.cell? ⟨b, 6, none⟩ = some v6 := by go_simp; with_reducible rfl) (f6 : W.frozen? ⟨b, 6, none⟩ = false := by go_simp) (c7 : W.cell? ⟨b, 7, none⟩ = some v7 := by go_simp; with_reducible rfl) (f7 : W.frozen? ⟨b, 7, none⟩ = false := by go_simp) (c8 : W.cell? ⟨b, 8, none⟩ = some v8 := by go_simp; with_reducible rfl) (f8 : W.frozen? ⟨b, 8, none⟩ = false := by go_simp) : w1.cell? ⟨b, 0, none⟩ = some v0 ∧ w1.frozen? ⟨b, 0, none⟩ = false ∧ w1.cell? ⟨b, 1, none⟩ = some v1 ∧ w1.frozen? ⟨b, 1, none⟩ = false ∧ w1.cell? ⟨b, 2, none⟩ = some v2 ∧ w1.frozen? ⟨b, 2, none⟩ = false ∧ w1.cell? ⟨b, 3, none⟩ = some v3 ∧ w1.frozen? ⟨b, 3, none⟩ = false ∧ w1.cell? ⟨b, 4, none⟩ = some v4 ∧ w1.frozen? ⟨b, 4, none⟩ = false ∧ w1.cell? ⟨b, 5, none⟩ = some v5 ∧ w1.frozen? ⟨b, 5, none⟩ = false ∧ w1.cell? ⟨b, 6, none⟩ = some v6 ∧ w1.frozen? ⟨b, 6, none⟩ = false ∧ w1.cell? ⟨b, 7, none⟩ = some v7 ∧ w1.frozen? ⟨b, 7, none⟩ = false ∧ w1.cell? ⟨b, 8, none⟩ = some v8 ∧ w1.frozen? ⟨b, 8, none⟩ = false := ⟨keepc h hl c0, keepf h hl f0, keepc h hl c1, keepf h hl f1, keepc h hl c2, keepf h hl f2, keepc h hl c3, keepf h hl f3, keepc h hl c4, keepf h hl f4, keepc h hl c5, keepf h hl f5, keepc h hl c6, keepf h hl f6, keepc h hl c7, keepf h hl f7, keepc h hl c8, keepf h hl f8⟩
end
end Go.Proofs.YtclgncaghiinhaaGreatDoor
