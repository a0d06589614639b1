/- Slices of structs that came in: any element of fixed cells whose reading is known. -/
import Derived.Lib.SmallJoins
import Derived.Maps.OwnSet
import Derived.Maps.OwnOps
import Derived.Deep.Slices
import Derived.Test.YtclgncaghiinhaaGreatDoorM4
import Derived.Test.YtclgncaghiinhaaGreatDoorM10
set_option linter.unusedSimpArgs false
set_option linter.unusedVariables false
set_option maxRecDepth 100000
namespace Go.Proofs.YtclgncaghiinhaaGreatDoor
open Go.RowKit
section
open Go.RowKit Go.ChangeShapes Go.WideShapes Go.ChangeAt
/-- a slot that came in -/
structure SlotArg (w : World) (A : Option Addr) (n cap : Nat) (x : Slt) : Prop where
  len : x.l.length = n
  s : -9223372036854775808 ≤ x.s ∧ x.s ≤ 9223372036854775807
  c : -9223372036854775808 ≤ x.c ∧ x.c ≤ 9223372036854775807
  ints : IntsAt w A .i64 x.l
  room : n ≤ cap
  max : cap ≤ 9223372036854775807
  fit : Fit x.l
  u : 0 ≤ x.u ∧ x.u ≤ 18446744073709551615
theorem SlotArg.is {w : World} {A : Option Addr} {n cap : Nat} {x : Slt} (h : SlotArg w A n cap x) (hn : n ≤ 40) : SlotIs w A n x := ⟨h.len, h.s, h.c, h.ints, by omega, h.fit, h.u⟩
theorem read_slot {H : Type} {enc : TypeId × Value → H} {W : World} {held : Bool} {fuel : Nat} {c0 c1 c2 c3 : Value} {x : DataW H × List MemPlace} (h : DataW.trod enc Tryz.prog W 0 (fun _ => true) held fuel 45 [c0, c1, c2, c3] = some x) :
    ∃ (z : Slt) (A : Option Addr) (n cap : Nat), c0 = .int .i64 z.s ∧ c1 = .int .i64 z.c ∧ c2 = .slice A n cap ∧ c3 = .int .u64 z.u ∧ SlotArg W A n cap z := by
  obtain ⟨xs, n, _, _, _, hlen, hg⟩ := DataW.trod_struct Tryz.underlying45 h
  have hl : xs.length = 4 := hlen
  match xs, hl with
  | [y0, y1, y2, y3], _ =>
    have e1 : Tryz.prog.cellsOf 3 = 1 := by kernel_rfl
    have e2 : Tryz.prog.cellsOf 42 = 1 := by kernel_rfl
    have e3 : Tryz.prog.cellsOf 43 = 1 := by kernel_rfl
    have g0 := hg 0 _ rfl
    have g1 := hg 1 _ rfl
    have g2 := hg 2 _ rfl
    have g3 := hg 3 _ rfl
    simp [e1, e2, e3] at g0 g1 g2 g3
    obtain ⟨s, rfl, ws⟩ := read_int Tryz.underlying3 g0
    obtain ⟨c, rfl, wc⟩ := read_int Tryz.underlying3 g1
    obtain ⟨A, cap, l, rfl, hi, hc, hm, hw⟩ := read_ints Tryz.underlying42 Tryz.underlying3 (by kernel_rfl) g2
    obtain ⟨u, rfl, wu⟩ := read_int Tryz.underlying43 g3
    unfold maxLen at hm
    exact ⟨⟨s, c, l, u⟩, A, l.length, cap, rfl, rfl, rfl, rfl, ⟨rfl, wf_i64 ws, wf_i64 wc, hi, hc, hm, fit_wf hw, wf_u64 wu⟩⟩
end
/-- a card's nine numbers -/
structure Crd where
  i : Int
  k : Int
  d : Int
  n : Int
  f : Int
  u : Int
  l : Int
  e : Int
  s : Int
def Crd.zero : Crd := ⟨0, 0, 0, 0, 0, 0, 0, 0, 0⟩
def Crd.cells (c : Crd) : List Value := [.int .i64 c.i, .int .i64 c.k, .int .i64 c.d, .int .i64 c.n, .int .i64 c.f, .int .i64 c.u, .int .i64 c.l, .int .i64 c.e, .int .i64 c.s]
theorem Crd.cells_len (c : Crd) : c.cells.length = 9 := rfl
/-- nine numbers of the machine's -/
structure CFit (c : Crd) : Prop where
  i : -9223372036854775808 ≤ c.i ∧ c.i ≤ 9223372036854775807
  k : -9223372036854775808 ≤ c.k ∧ c.k ≤ 9223372036854775807
  d : -9223372036854775808 ≤ c.d ∧ c.d ≤ 9223372036854775807
  n : -9223372036854775808 ≤ c.n ∧ c.n ≤ 9223372036854775807
  f : -9223372036854775808 ≤ c.f ∧ c.f ≤ 9223372036854775807
  u : -9223372036854775808 ≤ c.u ∧ c.u ≤ 9223372036854775807
  l : -9223372036854775808 ≤ c.l ∧ c.l ≤ 9223372036854775807
  e : -9223372036854775808 ≤ c.e ∧ c.e ≤ 9223372036854775807
  s : -9223372036854775808 ≤ c.s ∧ c.s ≤ 9223372036854775807
/-- the kind of a card and what it asks for -/
def kindP (c : Crd) : Prop := (c.k = 1 ∧ (1 ≤ c.d ∧ c.d ≤ 400) ∧ (1 ≤ c.n ∧ c.n ≤ 1000000000) ∧ c.l = 0) ∨ (c.k = 2 ∧ (0 ≤ c.d ∧ c.d ≤ 400) ∧ c.n = 0 ∧ c.l = 0) ∨ (c.k = 3 ∧ (0 ≤ c.d ∧ c.d ≤ 400) ∧ c.n = 0 ∧ (1 ≤ c.l ∧ c.l ≤ 1000000) ∧ c.l ≠ c.i)
def baseP (c : Crd) : Prop := (0 ≤ c.e ∧ c.e < 1073741789) ∧ (0 ≤ c.s ∧ c.s < 1073741789) ∧ (1 ≤ c.i ∧ c.i ≤ 1000000) ∧ 0 ≤ c.f ∧ c.f < c.u ∧ c.u ≤ 1000000000
instance (c : Crd) : Decidable (kindP c) := by unfold kindP; infer_instance
instance (c : Crd) : Decidable (baseP c) := by unfold baseP; infer_instance
/-- whether a card is well-formed -/
def cvB (c : Crd) : Bool := decide (baseP c ∧ kindP c)
theorem cvB_iff {c : Crd} : cvB c = true ↔ baseP c ∧ kindP c := by simp [cvB]
theorem cfit_zero : CFit Crd.zero := ⟨by decide, by decide, by decide, by decide, by decide, by decide, by decide, by decide, by decide⟩
def allV (l : List Crd) : Bool := l.all cvB
section
open Go.RowKit Go.Maps
/-- an element is read as itself -/
def anyE (v : Value) : Option (DataW Value × List MemPlace) := some (.held v, [])
/-- block b is a map over keys of the type k, of at most n entries, that holds D -/
def MapAt (w : World) (P : Program) (k : TypeId) (b n : Nat) (D : DataW Value) : Prop := w.ownsMap P k anyE b n D
section
variable {P : Program} {k e t : TypeId} {w w' : World} {b n : Nat} {D : DataW Value}
theorem MapAt.made (w : World) (P : Program) (k : TypeId) {h : Nat} (hh : w.heap.size = h) : MapAt (w.alloc (.map #[] 0)) P k h 0 (.map []) := by subst hh; exact World.ownsMap_made w P k anyE
theorem MapAt.alloc (h : MapAt w P k b n D) (o : Obj) : MapAt (w.alloc o) P k b n D := World.ownsMap.alloc h o
theorem MapAt.below (h : MapAt w P k b n D) (hb : Below w.heap.size w w') : MapAt w' P k b n D := World.ownsMap.kept h (grown_of_below hb none) (by simp)
theorem MapAt.kept {row : Option Nat} (h : MapAt w P k b n D) (hg : w.grownBy w' row) (hne : some b ≠ row) : MapAt w' P k b n D := World.ownsMap.kept h hg hne
/-- m[k], with and without ok -/
theorem MapAt.look_ok (h : MapAt w P k b n D) (K : Keyed P k) (ht : P.underlying t = some (.map k e)) {z : Value} (hz : (zeroValue e).run P w = .ok z w) {key : Value} {kl : Lit} (hkey : keyOf P k key = some kl) {v : Value} {ok : Bool}
    (hv : D.atKey kl (.held z) = .held v) (hok : Maps.has D kl = ok) : (Instr.lookup t (.map (some b)) key true).run P w = .ok (.tuple #[v, .bool ok]) w := by
  obtain ⟨v', ps, hr, hR⟩ := World.ownsMap.look_ok h K ht hz (R := anyE) rfl hkey
  rw [hv] at hR
  unfold anyE at hR
  injection hR with hR
  injection hR with hR _
  injection hR with hR
  rw [hr, hR, hok]
theorem MapAt.look (h : MapAt w P k b n D) (K : Keyed P k) (ht : P.underlying t = some (.map k e)) {z : Value} (hz : (zeroValue e).run P w = .ok z w) {key : Value} {kl : Lit} (hkey : keyOf P k key = some kl) {v : Value}
    (hv : D.atKey kl (.held z) = .held v) : (Instr.lookup t (.map (some b)) key false).run P w = .ok v w := by
  obtain ⟨v', ps, hr, hR⟩ := World.ownsMap.lookup h K ht hz (R := anyE) rfl hkey
  rw [hv] at hR
  unfold anyE at hR
  injection hR with hR
  injection hR with hR _
  injection hR with hR
  rw [hr, hR]
theorem MapAt.len (h : MapAt w P k b n D) (ht : P.underlying t = some (.map k e)) (ty : TypeId) : (Builtin.len_ #[t] ty #[.map (some b)]).run P w = .ok (.int .i64 (Maps.size D)) w := World.ownsMap.len h ht ty
theorem MapAt.store (h : MapAt w P k b n D) (K : Keyed P k) (ht : P.underlying t = some (.map k e)) (hn : n < maxLen) {key val : Value} {kl : Lit} (hkey : keyOf P k key = some kl) :
    ∃ w', (Instr.mapUpdate t (.map (some b)) key val).run P w = .ok () w' ∧ MapAt w' P k b (n + 1) (D.put kl (.held val)) ∧ w.grownBy w' (some b) := by
  obtain ⟨w', hr, h1, h2⟩ := World.ownsMap.store h K ht hn (val := val) (d := .held val) (ps := []) hkey rfl
  exact ⟨w', hr, h1, h2.grown⟩
/-- an entry of a literal, at the operation -/
theorem wp_insert_any {ops : Array Oper} {rest : List Oper} {o : Oper} {a : Act} {Q : Exit → Act → World → Prop} (w : World) (hg : o.guard = none) (m x v : Operand) (t : TypeId) (hop : o.op = Op.insert t m x v)
    (k e : TypeId) (K : Keyed P k) (ht : P.underlying t = some (.map k e)) (b n : Nat) (D : DataW Value) (hm : a.eval m = .map (some b)) (hown : MapAt w P k b n D) (hn : n < maxLen) (key val : Value) (kl : Lit) (hx : a.eval x = key) (hv : a.eval v = val) (hkey : keyOf P k key = some kl)
    (hK : ∀ w', MapAt w' P k b (n + 1) (D.put kl (.held val)) → w.grownBy w' (some b) → wpList P ops Q rest (a.put o.dst undef) w') : wpList P ops Q (o :: rest) a w := by
  refine wpList_plain hg fun K' hK' => ?_
  obtain ⟨w', hrun, r1, r2⟩ := hown.store K ht hn (val := val) hkey
  unfold Oper.wp
  simp [execOp, hop, hm, hx, hv, hrun, Result.andThen]
  exact hK' _ _ (hK w' r1 r2)
end
theorem int_ne {q : IntKind} {a b : Int} (h : a ≠ b) : Lit.int q a ≠ Lit.int q b := fun e => h (by injection e)
theorem at_put_int {q : IntKind} {D : DataW Value} (hD : IsMap D) (a k : Int) (d z : DataW Value) : (D.put (.int q a) d).atKey (.int q k) z = if k = a then d else D.atKey (.int q k) z := by
  by_cases h : k = a
  · subst h; rw [if_pos rfl, atKey_put_same hD (by simp [WideAt.IsKeyLit])]
  · rw [if_neg h, atKey_put_other (int_ne h)]
theorem has_put_int {q : IntKind} {D : DataW Value} (hD : IsMap D) (a k : Int) (d : DataW Value) : Maps.has (D.put (.int q a) d) (.int q k) = (decide (k = a) || Maps.has D (.int q k)) := by
  by_cases h : k = a
  · subst h; rw [has_put_same hD (by simp [WideAt.IsKeyLit])]; simp
  · rw [has_put_other (int_ne h)]; simp [h]
end
section
open Go.RowKit Go.Maps
theorem cwithin_any (n lo hi : Int) (w : World) : Calls Tryz.prog 71 #[.int .i64 n, .int .i64 lo, .int .i64 hi] w fun e w' => e = .returned (.bool (wB n lo hi)) ∧ w = w' := by
  by_cases h1 : lo ≤ n
  · by_cases h2 : n ≤ hi
    · have e : wB n lo hi = true := by simp [wB, h1, h2]
      have H_e := Lib.hid e; clear e
      go_enter Tryz.func71, Tryz.ntmps71
      go_wp2
      go_ret
      exact ⟨ret_bool (by rw [H_e.out]), rfl⟩
    · have e : wB n lo hi = false := by simp [wB, h2]
      have h3 : decide (n ≤ hi) = false := by simpa using h2
      have H_e := Lib.hid e; clear e
      go_enter Tryz.func71, Tryz.ntmps71
      go_wp2
      go_ret
      exact ⟨ret_bool (by rw [H_e.out]), rfl⟩
  · have e : wB n lo hi = false := by simp [wB, h1]
    have h3 : decide (lo ≤ n) = false := by simpa using h1
    have H_e := Lib.hid e; clear e
    go_enter Tryz.func71, Tryz.ntmps71
    go_wp2
    go_ret
    exact ⟨ret_bool (by rw [H_e.out]), rfl⟩
theorem cexponent_any (n : Int) (w : World) : Calls Tryz.prog 72 #[.int .i64 n] w fun e w' => e = .returned (.bool (wB n 0 1073741788)) ∧ w = w' := by
  have q := cwithin_any n 0 1073741788 w
  generalize wB n 0 1073741788 = R at *
  have H_q := Lib.hid q; clear q
  go_enter Tryz.func72, Tryz.ntmps72
  go_wp2_with fail
  refine H_q.out.mono ?_
  rintro e w_ ⟨rfl, rfl⟩
  go_wp2_with fail
  go_ret
  exact ⟨rfl, rfl⟩
/-- what a kind of cards needs -/
def needV (a b c d e f : Int) : Value := .agg #[.int .i64 a, .int .i64 b, .int .i64 c, .int .i64 d, .int .i64 e, .int .i64 f]
def kindD : DataW Value := (((DataW.map []).put (.int .i64 1) (.held (needV 1 400 1 1000000000 0 0))).put (.int .i64 2) (.held (needV 0 400 0 0 0 0))).put (.int .i64 3) (.held (needV 0 400 0 0 1 1000000))
/-- a map in new memory -/
def NewMap (k : TypeId) (n : Nat) (D : DataW Value) (w : World) (e : Ending) (w' : World) : Prop := ∃ b, e = .returned (.map (some b)) ∧ MapAt w' Tryz.prog k b n D ∧ Below w.heap.size w w'
set_option maxHeartbeats 1000000 in
theorem kinds_any (w : World) : Calls Tryz.prog 70 #[] w (NewMap 3 3 kindD w) := by
  have hmm := @run_makeMap Tryz.prog
  have K : Keyed Tryz.prog 3 := int_keyed Tryz.underlying3
  have k1 : keyOf Tryz.prog 3 (.int .i64 1) = some (.int .i64 1) := keyOf_int_mk Tryz.underlying3 (by decide)
  have k2 : keyOf Tryz.prog 3 (.int .i64 2) = some (.int .i64 2) := keyOf_int_mk Tryz.underlying3 (by decide)
  have k3 : keyOf Tryz.prog 3 (.int .i64 3) = some (.int .i64 3) := keyOf_int_mk Tryz.underlying3 (by decide)
  have ⟨H_k1, H_k2, H_k3⟩ := hid3 k1 k2 k3; clear k1 k2 k3
  go_enter Tryz.func70, Tryz.ntmps70
  go_wp2_with (refine wp_insert_any _ (by rfl) (.tmp 1) _ (.tmp 5) _ (by rfl) 3 116 K Tryz.underlying118 w.heap.size 0 (.map []) (by rfl) (MapAt.made w _ _ rfl) (by unfold maxLen; omega) (.int .i64 1) (needV 1 400 1 1000000000 0 0) (.int .i64 1) (by rfl) (by rfl) H_k1.out ?_)
  intro w1 m1 g1
  go_wp2_with (refine wp_insert_any _ (by rfl) (.tmp 1) _ (.tmp 9) _ (by rfl) 3 116 K Tryz.underlying118 w.heap.size 1 _ (by rfl) m1 (by unfold maxLen; omega) (.int .i64 2) (needV 0 400 0 0 0 0) (.int .i64 2) (by rfl) (by rfl) H_k2.out ?_)
  intro w2 m2 g2
  go_wp2_with (refine wp_insert_any _ (by rfl) (.tmp 1) _ (.tmp 13) _ (by rfl) 3 116 K Tryz.underlying118 w.heap.size 2 _ (by rfl) m2 (by unfold maxLen; omega) (.int .i64 3) (needV 0 400 0 0 1 1000000) (.int .i64 3) (by rfl) (by rfl) H_k3.out ?_)
  intro w3 m3 g3
  have g12 := grown_then g1 g2 (.inl rfl)
  have g13 := grown_then g12 g3 (.inl rfl)
  have ⟨H_m1, H_m2, H_m3, H_g1, H_g2, H_g3, H_g12, H_g13⟩ := hid8 m1 m2 m3 g1 g2 g3 g12 g13; clear m1 m2 m3 g1 g2 g3 g12 g13
  go_wp2_with fail
  go_ret
  exact ⟨w.heap.size, rfl, H_m3.out, below_of_grown (grown_then ((grown_of_below ((Below.refl _ _).alloc (Nat.le_refl _) _) (some w.heap.size))) H_g13.out (.inl rfl)) (Nat.le_refl _) (Nat.le_refl _)⟩
end
section
open Go.RowKit Go.ChangeShapes Go.WideShapes Go.ChangeAt
/-- the slice over A holds the elements l, each in C cells that read by At -/
def RowsAt {α : Type} (C : Nat) (At : World → List Value → α → Prop) (w : World) (A : Option Addr) (l : List α) : Prop :=
  ∀ i z, l[i]? = some z → ∃ b off cs, A = some ⟨b, off, none⟩ ∧ b < w.heap.size ∧ cs.length = C ∧ (∀ j, j < C → w.cell? ⟨b, off + (i * C + j), none⟩ = cs[j]?) ∧ At w cs z
theorem RowsAt.below {α : Type} {C : Nat} {At : World → List Value → α → Prop} {w w' : World} {A : Option Addr} {l : List α} (h : RowsAt C At w A l) (hmono : ∀ cs z, At w cs z → At w' cs z) (hb : Below w.heap.size w w') : RowsAt C At w' A l := fun i z hz => by
  obtain ⟨b, off, cs, e, hlt, hl, hc, ha⟩ := h i z hz
  exact ⟨b, off, cs, e, Nat.lt_of_lt_of_le hlt hb.size, hl, fun j hj => (hb.cell (p := ⟨b, off + (i * C + j), none⟩) hlt).trans (hc j hj), hmono cs z ha⟩
theorem RowsAt.nil {α : Type} {C : Nat} {At : World → List Value → α → Prop} {w : World} {A : Option Addr} : RowsAt C At w A ([] : List α) := fun i z h => by simp at h
theorem list_of {α : Type} {Q : Nat → α → Prop} : ∀ n, (∀ i, i < n → ∃ z, Q i z) → ∃ l : List α, l.length = n ∧ ∀ i z, l[i]? = some z → Q i z
  | 0, _ => ⟨[], rfl, fun i z h => by simp at h⟩
  | n + 1, h => by
    obtain ⟨l, hl, hq⟩ := list_of n (fun i hi => h i (by omega))
    obtain ⟨z, hz⟩ := h n (by omega)
    refine ⟨l ++ [z], by simp [hl], fun i y hy => ?_⟩
    rcases Nat.lt_or_ge i l.length with h1 | h1
    · rw [List.getElem?_append_left h1] at hy; exact hq i y hy
    · rw [List.getElem?_append_right h1] at hy
      have h0 : i - l.length = 0 := by
        rcases Nat.eq_zero_or_pos (i - l.length) with h2 | h2
        · exact h2
        · rw [List.getElem?_eq_none (by simp; omega)] at hy; cases hy
      rw [h0] at hy
      have : i = n := by omega
      subst this
      have : z = y := by simpa using hy
      rw [← this]; exact hz
theorem addr_add_add {a : Addr} {w : World} {v : Value} {i j : Nat} (h : w.cell? ((a.add i).add j) = some v) (h0 : a.spot = none) : w.cell? ⟨a.block, a.off + (i + j), none⟩ = some v := by
  rw [Go.Deep.add_add] at h
  exact addr_add h h0
theorem read_rows {H : Type} {enc : TypeId × Value → H} {P : Program} {W : World} {held : Bool} {t e : TypeId} {v : Value} {fuel : Nat} {y : DataW H × List MemPlace} {α : Type} {C : Nat} {At : World → List Value → α → Prop} (hC0 : 0 < C) (ht : P.underlying t = some (.slice e)) (hC : P.cellsOf e = C)
    (rd : ∀ (fuel : Nat) (cs : List Value) (x : DataW H × List MemPlace), cs.length = C → DataW.trod enc P W 0 (fun _ => true) held fuel e cs = some x → ∃ z, At W cs z)
    (hf : DataW.trod enc P W 0 (fun _ => true) held fuel t [v] = some y) : ∃ A c l, v = .slice A l.length c ∧ RowsAt C At W A l ∧ l.length ≤ c ∧ c ≤ maxLen := by
  rcases Go.Deep.open_slice ht hf with ⟨hcs, _⟩ | ⟨a, len, cap, m, n, D, Pl, hcs, _, hle, hmax, hm, _, hel⟩
  · have : v = .slice none 0 0 := by simpa using hcs
    subst this
    exact ⟨none, 0, [], rfl, RowsAt.nil, by simp, by simp⟩
  · have : v = .slice (some a) len cap := by simpa using hcs
    subst this
    simp only [if_true] at hm
    rw [hC] at hel
    obtain ⟨l, hl, hq⟩ := list_of (Q := fun i z => ∃ b off cs, some a = some ⟨b, off, none⟩ ∧ b < W.heap.size ∧ cs.length = C ∧ (∀ j, j < C → W.cell? ⟨b, off + (i * C + j), none⟩ = cs[j]?) ∧ At W cs z) len (fun i hi => by
      obtain ⟨cs, hc, htr⟩ := hel i (by omega)
      obtain ⟨_, hcl, hat⟩ := World.cells?_some hc
      obtain ⟨z, hz⟩ := rd n cs _ hcl htr
      obtain ⟨cs0, hc0, _⟩ := hel 0 (by omega)
      obtain ⟨_, hcl0, hat0⟩ := World.cells?_some hc0
      have h00 := hat0 0 hC0
      rw [List.getElem?_eq_getElem (by omega)] at h00
      have h01 : W.cell? a = some (cs0[0]'(by omega)) := by simpa [Addr.add] using h00
      have hs := World.cell?_spot h01
      refine ⟨z, a.block, a.off, cs, by obtain ⟨b, o, s⟩ := a; simp at hs; subst hs; rfl, cell_lt h01, hcl, fun j hj => ?_, hz⟩
      have hj2 := hat j hj
      rw [List.getElem?_eq_getElem (by omega)] at hj2 ⊢
      exact addr_add_add hj2 hs)
    subst hl
    exact ⟨some a, cap, l, rfl, fun i z hz => hq i z hz, hle, hmax⟩
end
end Go.Proofs.YtclgncaghiinhaaGreatDoor
