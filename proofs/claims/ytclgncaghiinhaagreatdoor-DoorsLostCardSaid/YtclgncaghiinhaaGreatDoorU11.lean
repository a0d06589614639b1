/- Rows of the call's own whose elements take several cells; appending to them; reading them. -/
import Derived.Deep.Slices
import Derived.Test.YtclgncaghiinhaaGreatDoorU4
import Derived.Test.YtclgncaghiinhaaGreatDoorU10
set_option linter.unusedSimpArgs false
set_option linter.unusedVariables false
set_option maxRecDepth 100000
namespace Go.Proofs.YtclgncaghiinhaaGreatDoor
open Go.RowKit
section
open Go.RowKit Go.Maps
theorem cwithin_any (n lo hi : Int) (w : World) : Calls Tryz.prog 71 #[.int .i64 n, .int .i64 lo, .int .i64 hi] w fun e w' => e = .returned (.bool (wB n lo hi)) ∧ w = w' := by
 by_cases h1 : lo ≤ n
 ·by_cases h2 : n ≤ hi
  ·have e : wB n lo hi = true := by simp [wB, h1, h2]
   have He := Lib.hid e; clear e
   go_enter Tryz.func71, Tryz.ntmps71
   go_wp2
   go_ret
   exact ⟨ret_bool (by rw [He.out]), rfl⟩
  ·have e : wB n lo hi = false := by simp [wB, h2]
   have h3 : decide (n ≤ hi) = false := by simpa using h2
   have He := Lib.hid e; clear e
   go_enter Tryz.func71, Tryz.ntmps71
   go_wp2
   go_ret
   exact ⟨ret_bool (by rw [He.out]), rfl⟩
 ·have e : wB n lo hi = false := by simp [wB, h1]
  have h3 : decide (lo ≤ n) = false := by simpa using h1
  have He := Lib.hid e; clear e
  go_enter Tryz.func71, Tryz.ntmps71
  go_wp2
  go_ret
  exact ⟨ret_bool (by rw [He.out]), rfl⟩
theorem cexponent_any (n : Int) (w : World) : Calls Tryz.prog 72 #[.int .i64 n] w fun e w' => e = .returned (.bool (wB n 0 1073741788)) ∧ w = w' := by
 have q := cwithin_any n 0 1073741788 w
 generalize wB n 0 1073741788 = R at *
 have Hq := Lib.hid q; clear q
 go_enter Tryz.func72, Tryz.ntmps72
 go_wp2_with fail
 refine Hq.out.mono ?_
 rintro e w_ ⟨rfl, rfl⟩
 go_wp2_with fail
 go_ret
 exact ⟨rfl, rfl⟩
/-- what a kind of cards needs -/
def needV (a b c d e f : Int) : Value := .agg #[.int .i64 a, .int .i64 b, .int .i64 c, .int .i64 d, .int .i64 e, .int .i64 f]
def kindD : DataW Value := (((DataW.map []).put (.int .i64 1) (.held (needV 1 400 1 1000000000 0 0))).put (.int .i64 2) (.held (needV 0 400 0 0 0 0))).put (.int .i64 3) (.held (needV 0 400 0 0 1 1000000))
/-- a map in new memory -/
def NewMap (k : TypeId) (n : Nat) (D : DataW Value) (w : World) (e : Ending) (w' : World) : Prop := ∃ b, e = .returned (.map (some b)) ∧ MapAt w' Tryz.prog k b n D ∧ Below w.heap.size w w'
set_option maxHeartbeats 1000000 in
theorem kinds_any (w : World) : Calls Tryz.prog 70 #[] w (NewMap 3 3 kindD w) := by
 have hmm := @run_makeMap Tryz.prog
 have K : Keyed Tryz.prog 3 := int_keyed Tryz.underlying3
 have k1 : keyOf Tryz.prog 3 (.int .i64 1) = some (.int .i64 1) := keyOf_int_mk Tryz.underlying3 (by decide)
 have k2 : keyOf Tryz.prog 3 (.int .i64 2) = some (.int .i64 2) := keyOf_int_mk Tryz.underlying3 (by decide)
 have k3 : keyOf Tryz.prog 3 (.int .i64 3) = some (.int .i64 3) := keyOf_int_mk Tryz.underlying3 (by decide)
 have ⟨Hk1, Hk2, Hk3⟩ := hid3 k1 k2 k3; clear k1 k2 k3
 go_enter Tryz.func70, Tryz.ntmps70
 go_wp2_with (refine wp_insert_any _ (by rfl) (.tmp 1) _ (.tmp 5) _ (by rfl) 3 116 K Tryz.underlying118 w.heap.size 0 (.map []) (by rfl) (MapAt.made w _ _ rfl) (by unfold maxLen; omega) (.int .i64 1) (needV 1 400 1 1000000000 0 0) (.int .i64 1) (by rfl) (by rfl) Hk1.out ?_)
 intro w1 m1 g1
 go_wp2_with (refine wp_insert_any _ (by rfl) (.tmp 1) _ (.tmp 9) _ (by rfl) 3 116 K Tryz.underlying118 w.heap.size 1 _ (by rfl) m1 (by unfold maxLen; omega) (.int .i64 2) (needV 0 400 0 0 0 0) (.int .i64 2) (by rfl) (by rfl) Hk2.out ?_)
 intro w2 m2 g2
 go_wp2_with (refine wp_insert_any _ (by rfl) (.tmp 1) _ (.tmp 13) _ (by rfl) 3 116 K Tryz.underlying118 w.heap.size 2 _ (by rfl) m2 (by unfold maxLen; omega) (.int .i64 3) (needV 0 400 0 0 1 1000000) (.int .i64 3) (by rfl) (by rfl) Hk3.out ?_)
 intro w3 m3 g3
 have g12 := grown_then g1 g2 (.inl rfl)
 have g13 := grown_then g12 g3 (.inl rfl)
 have ⟨Hm1, Hm2, Hm3, Hg1, Hg2, Hg3, Hg12, Hg13⟩ := hid8 m1 m2 m3 g1 g2 g3 g12 g13; clear m1 m2 m3 g1 g2 g3 g12 g13
 go_wp2_with fail
 go_ret
 exact ⟨w.heap.size, rfl, Hm3.out, below_of_grown (grown_then ((grown_of_below ((Below.refl _ _).alloc (Nat.le_refl _) _) (some w.heap.size))) Hg13.out (.inl rfl)) (Nat.le_refl _) (Nat.le_refl _)⟩
end
section
open Go.RowKit Go.ChangeShapes Go.WideShapes Go.ChangeAt
/-- the slice over A holds the elements l, each in C cells that read by At -/
def RowsAt {α : Type} (C : Nat) (At : World → List Value → α → Prop) (w : World) (A : Option Addr) (l : List α) : Prop :=
 ∀ i z, l[i]? = some z → ∃ b off cs, A = some ⟨b, off, none⟩ ∧ b < w.heap.size ∧ cs.length = C ∧ (∀ j, j < C → w.cell? ⟨b, off + (i * C + j), none⟩ = cs[j]?) ∧ At w cs z
theorem RowsAt.below {α : Type} {C : Nat} {At : World → List Value → α → Prop} {w w' : World} {A : Option Addr} {l : List α} (h : RowsAt C At w A l) (hmono : ∀ cs z, At w cs z → At w' cs z) (hb : Below w.heap.size w w') : RowsAt C At w' A l := fun i z hz => by
 obtain ⟨b, off, cs, e, hlt, hl, hc, ha⟩ := h i z hz
 exact ⟨b, off, cs, e, Nat.lt_of_lt_of_le hlt hb.size, hl, fun j hj => (hb.cell (p := ⟨b, off + (i * C + j), none⟩) hlt).trans (hc j hj), hmono cs z ha⟩
theorem RowsAt.nil {α : Type} {C : Nat} {At : World → List Value → α → Prop} {w : World} {A : Option Addr} : RowsAt C At w A ([] : List α) := fun i z h => by simp at h
theorem list_of {α : Type} {Q : Nat → α → Prop} : ∀ n, (∀ i, i < n → ∃ z, Q i z) → ∃ l : List α, l.length = n ∧ ∀ i z, l[i]? = some z → Q i z
 | 0, _ => ⟨[], rfl, fun i z h => by simp at h⟩
 | n + 1, h => by
  obtain ⟨l, hl, hq⟩ := list_of n (fun i hi => h i (by omega))
  obtain ⟨z, hz⟩ := h n (by omega)
  refine ⟨l ++ [z], by simp [hl], fun i y hy => ?_⟩
  rcases Nat.lt_or_ge i l.length with h1 | h1
  ·rw [List.getElem?_append_left h1] at hy; exact hq i y hy
  ·rw [List.getElem?_append_right h1] at hy
   have h0 : i - l.length = 0 := by
    rcases Nat.eq_zero_or_pos (i - l.length) with h2 | h2
    ·exact h2
    ·rw [List.getElem?_eq_none (by simp; omega)] at hy; cases hy
   rw [h0] at hy
   have : i = n := by omega
   subst this
   have : z = y := by simpa using hy
   rw [← this]; exact hz
theorem addr_add_add {a : Addr} {w : World} {v : Value} {i j : Nat} (h : w.cell? ((a.add i).add j) = some v) (h0 : a.spot = none) : w.cell? ⟨a.block, a.off + (i + j), none⟩ = some v := by
 rw [Go.Deep.add_add] at h
 exact addr_add h h0
theorem read_rows {H : Type} {enc : TypeId × Value → H} {P : Program} {W : World} {held : Bool} {t e : TypeId} {v : Value} {fuel : Nat} {y : DataW H × List MemPlace} {α : Type} {C : Nat} {At : World → List Value → α → Prop} (hC0 : 0 < C) (ht : P.underlying t = some (.slice e)) (hC : P.cellsOf e = C)
  (rd : ∀ (fuel : Nat) (cs : List Value) (x : DataW H × List MemPlace), cs.length = C → DataW.trod enc P W 0 (fun _ => true) held fuel e cs = some x → ∃ z, At W cs z)
  (hf : DataW.trod enc P W 0 (fun _ => true) held fuel t [v] = some y) : ∃ A c l, v = .slice A l.length c ∧ RowsAt C At W A l ∧ l.length ≤ c ∧ c ≤ maxLen := by
 rcases Go.Deep.open_slice ht hf with ⟨hcs, _⟩ | ⟨a, len, cap, m, n, D, Pl, hcs, _, hle, hmax, hm, _, hel⟩
 ·have : v = .slice none 0 0 := by simpa using hcs
  subst this
  exact ⟨none, 0, [], rfl, RowsAt.nil, by simp, by simp⟩
 ·have : v = .slice (some a) len cap := by simpa using hcs
  subst this
  simp only [if_true] at hm
  rw [hC] at hel
  obtain ⟨l, hl, hq⟩ := list_of (Q := fun i z => ∃ b off cs, some a = some ⟨b, off, none⟩ ∧ b < W.heap.size ∧ cs.length = C ∧ (∀ j, j < C → W.cell? ⟨b, off + (i * C + j), none⟩ = cs[j]?) ∧ At W cs z) len (fun i hi => by
   obtain ⟨cs, hc, htr⟩ := hel i (by omega)
   obtain ⟨_, hcl, hat⟩ := World.cells?_some hc
   obtain ⟨z, hz⟩ := rd n cs _ hcl htr
   obtain ⟨cs0, hc0, _⟩ := hel 0 (by omega)
   obtain ⟨_, hcl0, hat0⟩ := World.cells?_some hc0
   have h00 := hat0 0 hC0
   rw [List.getElem?_eq_getElem (by omega)] at h00
   have h01 : W.cell? a = some (cs0[0]'(by omega)) := by simpa [Addr.add] using h00
   have hs := World.cell?_spot h01
   refine ⟨z, a.block, a.off, cs, by obtain ⟨b, o, s⟩ := a; simp at hs; subst hs; rfl, cell_lt h01, hcl, fun j hj => ?_, hz⟩
   have hj2 := hat j hj
   rw [List.getElem?_eq_getElem (by omega)] at hj2 ⊢
   exact addr_add_add hj2 hs)
  subst hl
  exact ⟨some a, cap, l, rfl, fun i z hz => hq i z hz, hle, hmax⟩
end
section
section
variable {α : Type} {cells : α → List Value} {C : Nat}
theorem flat_len (hC : ∀ z, (cells z).length = C) : ∀ l : List α, (l.flatMap cells).length = l.length * C
 | [] => by simp
 | z :: r => by rw [List.flatMap_cons, List.length_append, hC, flat_len hC r, List.length_cons, Nat.succ_mul, Nat.add_comm]
theorem flat_get (hC : ∀ z, (cells z).length = C) : ∀ (l : List α) (i j : Nat) (z : α), j < C → l[i]? = some z → (l.flatMap cells)[i * C + j]? = (cells z)[j]?
 | [], i, j, z, _, h => by simp at h
 | y :: r, 0, j, z, hj, h => by
  have e : y = z := by simpa using h
  rw [List.flatMap_cons, Nat.zero_mul, Nat.zero_add, List.getElem?_append_left (by rw [hC]; exact hj), e]
 | y :: r, i + 1, j, z, hj, h => by
  have ih := flat_get hC r i j z hj (by simpa using h)
  rw [List.flatMap_cons, List.getElem?_append_right (by rw [hC, Nat.succ_mul]; omega), hC, ← ih]
  congr 1
  rw [Nat.succ_mul]; omega
theorem flat_split (hC : ∀ z, (cells z).length = C) (l : List α) (k : Nat) (u : Value) (h : (l.flatMap cells)[k]? = some u) : ∃ i j z, j < C ∧ l[i]? = some z ∧ k = i * C + j ∧ (cells z)[j]? = some u := by
 have hk : k < l.length * C := by
  rcases Nat.lt_or_ge k (l.length * C) with h1 | h1
  ·exact h1
  ·rw [List.getElem?_eq_none (by rw [flat_len hC]; exact h1)] at h; cases h
 have hC0 : 0 < C := by
  rcases Nat.eq_zero_or_pos C with h0 | h0
  ·subst h0; omega
  ·exact h0
 have hi : k / C < l.length := (Nat.div_lt_iff_lt_mul hC0).2 hk
 have e : k = k / C * C + k % C := by rw [Nat.mul_comm]; exact (Nat.div_add_mod k C).symm
 refine ⟨k / C, k % C, l[k / C], Nat.mod_lt _ hC0, List.getElem?_eq_getElem hi, e, ?_⟩
 rw [← flat_get hC l (k / C) (k % C) _ (Nat.mod_lt _ hC0) (List.getElem?_eq_getElem hi), ← e]; exact h
/-- the slice over A, of capacity c, is the call's own row of the elements l -/
def OwnRows (E : TypeId) (C : Nat) (cells : α → List Value) (w : World) (base : Nat) (A : Option Addr) (c : Nat) (l : List α) : Prop :=
 w.ownsRow base E C (.slice A l.length c) l.length (l.flatMap cells)
variable {E : TypeId} {w w' : World} {base : Nat} {A : Option Addr} {c : Nat} {l : List α}
theorem OwnRows.nil (E : TypeId) (C : Nat) (cells : α → List Value) (w : World) (base : Nat) : OwnRows E C cells w base none 0 ([] : List α) := World.ownsRow_nil w base E C
theorem OwnRows.kept {row : Option Nat} (h : OwnRows E C cells w base A c l) (hg : w.grownBy w' row) (hne : blockOf A = none ∨ blockOf A ≠ row) : OwnRows E C cells w' base A c l :=
 World.ownsRow.kept h hg (by rw [ownBlock_slice]; exact hne)
theorem OwnRows.alloc (h : OwnRows E C cells w base A c l) (o : Obj) : OwnRows E C cells (w.alloc o) base A c l := World.ownsRow.alloc h o
theorem OwnRows.below (h : OwnRows E C cells w base A c l) (hb : Below w.heap.size w w') : OwnRows E C cells w' base A c l :=
 h.kept (grown_of_below hb none) (by cases h' : blockOf A <;> simp)
theorem OwnRows.lt (h : OwnRows E C cells w base A c l) : ∀ g, blockOf A = some g → base ≤ g ∧ g < w.heap.size := fun g hg =>
 World.ownsRow.lt h g (by rw [ownBlock_slice]; exact hg)
theorem OwnRows.cap (h : OwnRows E C cells w base A c l) : l.length ≤ c ∧ c ≤ maxLen := by
 rcases h.2 with ⟨hv, hn⟩ | ⟨g, cap, cur, hv, _, _, hnc, hm, _⟩
 ·injection hv with _ _ hc; exact ⟨by omega, by rw [hc]; exact Nat.zero_le _⟩
 ·injection hv with _ _ hc; exact ⟨by omega, by rw [hc]; exact hm⟩
/-- such a row is read -/
theorem OwnRows.rows {At : World → List Value → α → Prop} (h : OwnRows E C cells w base A c l) (hC : ∀ z, (cells z).length = C) (hat : ∀ z ∈ l, At w (cells z) z) : RowsAt C At w A l := fun i z hz => by
 have hil : i < l.length := by
  rcases Nat.lt_or_ge i l.length with h1 | h1
  ·exact h1
  ·rw [List.getElem?_eq_none h1] at hz; cases hz
 rcases h.2 with ⟨hv, hn⟩ | ⟨g, cap, cur, hv, hb, hh, hnc, hm, hs, ht⟩
 ·omega
 ·injection hv with hA _ _
  subst hA
  refine ⟨g, 0, cells z, rfl, lt_of_block hh, hC z, fun j hj => ?_, hat z (List.mem_of_getElem? hz)⟩
  rw [Nat.zero_add, cell_of_row w g _ cur E (0, 0) hh]
  have h1 : (cur.toList.take (l.length * C))[i * C + j]? = (l.flatMap cells)[i * C + j]? := by rw [ht]
  have h2 : i * C + j < l.length * C := by
   have : (i + 1) * C ≤ l.length * C := Nat.mul_le_mul_right _ hil
   rw [Nat.succ_mul] at this; omega
  rw [List.getElem?_take_of_lt h2] at h1
  simp only [Array.getElem?_toList] at h1
  rw [h1, flat_get hC l i j z hj hz]
/-- one element in a new block -/
theorem rows_new1 {At : World → List Value → α → Prop} (w : World) (z : α) (vs : Array Value) (t : TypeId) (n : Nat) (hn : w.heap.size = n) (hC : vs.toList.length = C) (hat : At (w.alloc (.cells vs t)) vs.toList z) : RowsAt C At (w.alloc (.cells vs t)) (some ⟨n, 0, none⟩) [z] := fun i y hy => by
 subst hn
 have hi : i = 0 := by
  rcases Nat.eq_zero_or_pos i with h | h
  ·exact h
  ·rw [List.getElem?_eq_none (by simp; omega)] at hy; cases hy
 subst hi
 have : z = y := by simpa using hy
 subst this
 refine ⟨w.heap.size, 0, vs.toList, rfl, by simp, hC, fun j hj => ?_, hat⟩
 rw [Nat.zero_add, Nat.zero_mul, Nat.zero_add, cell_of_row _ _ _ _ _ _ (heap_alloc_new w _)]
 simp
variable {P : Program}
theorem run_app_gen {At : World → List Value → α → Prop} (w : World) (t ty : TypeId) (i : TypeInfo) (z : Value) (bytes : Nat) (ht : P.underlying t = some (.slice E)) (hi : P.info? E = some i) (hz : i.zero = some z)
    (hsize : i.size = C) (hby : i.bytes = bytes) (hzs : z.cells.size = C) (hC0 : 0 < C) (hC : ∀ z, (cells z).length = C) (hone : ∀ z, ∀ u ∈ cells z, u.oneCell' = true) (hAt : ∀ cs z, At w cs z → cs = cells z)
    (hown : OwnRows E C cells w base A c l) (B : Option Addr) (cc : Nat) (mm : List α) (hr : RowsAt C At w B mm) (h63 : l.length + mm.length ≤ maxLen) (hb : (l.length + mm.length) * bytes ≤ 140737488355328) (hbase : base ≤ w.heap.size) :
    ∃ A' c' w', (Builtin.append_ #[t, t] ty #[.slice A l.length c, .slice B mm.length cc]).run P w = .ok (.slice A' (l ++ mm).length c') w' ∧ OwnRows E C cells w' base A' c' (l ++ mm) ∧ w.grownBy w' (blockOf A) ∧ (blockOf A' = blockOf A ∨ blockOf A' = some w.heap.size) := by
  rcases B with _ | ad
  · have hl : mm = [] := by
      cases mm with
      | nil => rfl
      | cons x r => obtain ⟨b, off, cs, h, _⟩ := hr 0 x (by simp); cases h
    subst hl
    refine ⟨A, c, w, ?_, by simpa using hown, grown_refl _ _, .inl rfl⟩
    rcases hown.2 with ⟨hv, hn⟩ | ⟨g, cap, cur, hv, _, _, hnc, _⟩
    · have hl0 : l = [] := List.eq_nil_of_length_eq_zero hn
      subst hl0
      injection hv with hA _ hc
      subst hA hc
      simp [Builtin.append_, run_underlying ht, sizeOf, typeInfo, hi, Builtin.lenOf, Builtin.firstCells, loadCells, loadCellsFrom]
    · injection hv with hA _ hc
      subst hA hc
      simp [Builtin.append_, run_underlying ht, sizeOf, typeInfo, hi, Builtin.lenOf, Builtin.firstCells, hnc, storeCells]
  · have hnews : ∀ j u, (mm.flatMap cells)[j]? = some u → w.cell? (ad.add j) = some u := by
      intro k u hk
      obtain ⟨i, j, z, hj, hz, e, hu⟩ := flat_split hC mm k u hk
      obtain ⟨b, off, cs, h, _, _, hc, ha⟩ := hr i z hz
      injection h with h
      subst h
      have hc2 := hc j hj
      rw [hAt cs z ha, hu] at hc2
      rw [← hc2, e]
      unfold Addr.add
      split
      · rename_i h0; rw [h0]; rfl
      · rfl
    have h1 : ∀ u ∈ mm.flatMap cells, u.oneCell' = true := fun u hu => by
      obtain ⟨z, _, hz⟩ := List.mem_flatMap.1 hu
      exact hone z u hz
    obtain ⟨v', w', hr', h2, h3, h4, h5⟩ := run_append_own_at (P := P) w base t ty E i z C bytes ht hi hz hsize hby hzs hC0 (.slice A l.length c) l.length (l.flatMap cells) hown ad mm.length cc (mm.flatMap cells) (flat_len hC mm) hnews h1 h63 hb hbase
    rw [← List.flatMap_append, ← List.length_append] at h2
    have hv : ∃ A' c', v' = .slice A' (l ++ mm).length c' := by
      rcases h2.2 with ⟨hv, hn⟩ | ⟨g, cap, cur, hv, _⟩
      · exact ⟨none, 0, by rw [hv, hn]⟩
      · exact ⟨_, cap, hv⟩
    obtain ⟨A', c', rfl⟩ := hv
    rw [ownBlock_slice] at h3 h5
    rw [ownBlock_slice] at h5
    exact ⟨A', c', w', hr', h2, h3, h5⟩
/-- the law of append at the operation, lengths under names -/
theorem wp_app_gen {At : World → List Value → α → Prop} (w : World) {ops : Array Oper} {rest : List Oper} {o : Oper} {a : Act} {Q : Exit → Act → World → Prop} (hgd : o.guard = none) (s x : Operand) (t : TypeId)
  (ho : o.op = .call { callee := .builtin .append, args := #[s, x], argTypes := #[t, t] }) (i : TypeInfo) (z : Value) (bytes : Nat) (ht : P.underlying t = some (.slice E)) (hi : P.info? E = some i) (hz : i.zero = some z)
  (hsize : i.size = C) (hby : i.bytes = bytes) (hzs : z.cells.size = C) (hC0 : 0 < C) (hC : ∀ z, (cells z).length = C) (hone : ∀ z, ∀ u ∈ cells z, u.oneCell' = true) (hAt : ∀ cs z, At w cs z → cs = cells z)
  (n : Nat) (hln : l.length = n) (hs : a.eval s = .slice A n c) (hown : OwnRows E C cells w base A c l) (B : Option Addr) (cc m : Nat) (mm : List α) (hlm : mm.length = m) (hx : a.eval x = .slice B m cc) (hr : RowsAt C At w B mm)
  (h63 : n + m ≤ maxLen) (hb : (n + m) * bytes ≤ 140737488355328) (hbase : base ≤ w.heap.size)
  (h : ∀ A' c' w', OwnRows E C cells w' base A' c' (l ++ mm) → w.grownBy w' (blockOf A) → (blockOf A' = blockOf A ∨ blockOf A' = some w.heap.size) → wpList P ops Q rest (a.put o.dst (.slice A' (n + m) c')) w') : wpList P ops Q (o :: rest) a w := by
 subst hln hlm
 obtain ⟨A', c', w', hrun, h2, h3, h4⟩ := run_app_gen w t o.type i z bytes ht hi hz hsize hby hzs hC0 hC hone hAt hown B cc mm hr h63 hb hbase
 refine wpList_plain hgd fun _ hK => ?_
 unfold Oper.wp execOp
 simp only [ho, resolve, invoke, builtin, Sem.run_bind, Sem.run_pure, Result.andThen_ok, List.map_toArray, List.map_cons, List.map_nil, hs, hx, hrun]
 rw [List.length_append]
 exact hK _ _ (h A' c' w' h2 h3 h4)
theorem step_app_gen {At : World → List Value → α → Prop} (w : World) {ops : Array Oper} {o : Oper} {a : Act} {K : Act → World → Prop} {Q : Exit → Act → World → Prop} {X : Prop} (hgd : o.guard = none) (s x : Operand) (t : TypeId)
  (ho : o.op = .call { callee := .builtin .append, args := #[s, x], argTypes := #[t, t] }) (i : TypeInfo) (z : Value) (bytes : Nat) (ht : P.underlying t = some (.slice E)) (hi : P.info? E = some i) (hz : i.zero = some z)
  (hsize : i.size = C) (hby : i.bytes = bytes) (hzs : z.cells.size = C) (hC0 : 0 < C) (hC : ∀ z, (cells z).length = C) (hone : ∀ z, ∀ u ∈ cells z, u.oneCell' = true) (hAt : ∀ cs z, At w cs z → cs = cells z)
  (n : Nat) (hln : l.length = n) (hs : a.eval s = .slice A n c) (hown : OwnRows E C cells w base A c l) (B : Option Addr) (cc m : Nat) (mm : List α) (hlm : mm.length = m) (hx : a.eval x = .slice B m cc) (hr : RowsAt C At w B mm)
  (h63 : n + m ≤ maxLen) (hb : (n + m) * bytes ≤ 140737488355328) (hbase : base ≤ w.heap.size)
  (h : ∀ A' c' w', OwnRows E C cells w' base A' c' (l ++ mm) → w.grownBy w' (blockOf A) → (blockOf A' = blockOf A ∨ blockOf A' = some w.heap.size) → K (a.put o.dst (.slice A' (n + m) c')) w') : if Region.wanted o (yielded ops a.tmps) = true then Oper.wp P o a w K Q else X := by
 subst hln hlm
 have hw : Region.wanted o (yielded ops a.tmps) = true := by simp [Region.wanted, hgd]
 rw [if_pos hw]
 obtain ⟨A', c', w', hrun, h2, h3, h4⟩ := run_app_gen w t o.type i z bytes ht hi hz hsize hby hzs hC0 hC hone hAt hown B cc mm hr h63 hb hbase
 unfold Oper.wp execOp
 simp only [ho, resolve, invoke, builtin, Sem.run_bind, Sem.run_pure, Result.andThen_ok, List.map_toArray, List.map_cons, List.map_nil, hs, hx, hrun]
 rw [List.length_append]
 exact h A' c' w' h2 h3 h4
end
end
end Go.Proofs.YtclgncaghiinhaaGreatDoor
