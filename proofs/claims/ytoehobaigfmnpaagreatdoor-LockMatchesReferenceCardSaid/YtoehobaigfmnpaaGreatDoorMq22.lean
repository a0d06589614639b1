/- Rows of the call's own whose elements take several cells; appending to them; reading them. -/
import Derived.Maps.OwnSet
import Derived.Maps.OwnOps
import Derived.Test.YtoehobaigfmnpaaGreatDoorMq4
import Derived.Test.YtoehobaigfmnpaaGreatDoorMq20
set_option linter.unusedSimpArgs false
set_option linter.unusedVariables false
set_option maxRecDepth 100000
namespace Go.Proofs.YtoehobaigfmnpaaGreatDoor
open Go.RowKit
structure Crd where
 i : Int
 k : Int
 d : Int
 n : Int
 f : Int
 u : Int
 l : Int
 e : Int
 s : Int
def Crd.zero : Crd := ⟨0, 0, 0, 0, 0, 0, 0, 0, 0⟩
def Crd.cells (c : Crd) : List Value := [.int .i64 c.i, .int .i64 c.k, .int .i64 c.d, .int .i64 c.n, .int .i64 c.f, .int .i64 c.u, .int .i64 c.l, .int .i64 c.e, .int .i64 c.s]
theorem Crd.cells_len (c : Crd) : c.cells.length = 9 := rfl
structure CFit (c : Crd) : Prop where
 i : -9223372036854775808 ≤ c.i ∧ c.i ≤ 9223372036854775807
 k : -9223372036854775808 ≤ c.k ∧ c.k ≤ 9223372036854775807
 d : -9223372036854775808 ≤ c.d ∧ c.d ≤ 9223372036854775807
 n : -9223372036854775808 ≤ c.n ∧ c.n ≤ 9223372036854775807
 f : -9223372036854775808 ≤ c.f ∧ c.f ≤ 9223372036854775807
 u : -9223372036854775808 ≤ c.u ∧ c.u ≤ 9223372036854775807
 l : -9223372036854775808 ≤ c.l ∧ c.l ≤ 9223372036854775807
 e : -9223372036854775808 ≤ c.e ∧ c.e ≤ 9223372036854775807
 s : -9223372036854775808 ≤ c.s ∧ c.s ≤ 9223372036854775807
def kindP (c : Crd) : Prop := (c.k = 1 ∧ (1 ≤ c.d ∧ c.d ≤ 400) ∧ (1 ≤ c.n ∧ c.n ≤ 1000000000) ∧ c.l = 0) ∨ (c.k = 2 ∧ (0 ≤ c.d ∧ c.d ≤ 400) ∧ c.n = 0 ∧ c.l = 0) ∨ (c.k = 3 ∧ (0 ≤ c.d ∧ c.d ≤ 400) ∧ c.n = 0 ∧ (1 ≤ c.l ∧ c.l ≤ 1000000) ∧ c.l ≠ c.i)
def baseP (c : Crd) : Prop := (0 ≤ c.e ∧ c.e < 1073741789) ∧ (0 ≤ c.s ∧ c.s < 1073741789) ∧ (1 ≤ c.i ∧ c.i ≤ 1000000) ∧ 0 ≤ c.f ∧ c.f < c.u ∧ c.u ≤ 1000000000
instance (c : Crd) : Decidable (kindP c) := by unfold kindP; infer_instance
instance (c : Crd) : Decidable (baseP c) := by unfold baseP; infer_instance
def cvB (c : Crd) : Bool := decide (baseP c ∧ kindP c)
theorem cvB_iff {c : Crd} : cvB c = true ↔ baseP c ∧ kindP c := by simp [cvB]
theorem cvB_no {c : Crd} : cvB c = false ↔ ¬ (baseP c ∧ kindP c) := by simp [cvB]
theorem cfit_zero : CFit Crd.zero := ⟨by decide, by decide, by decide, by decide, by decide, by decide, by decide, by decide, by decide⟩
section
open Go.RowKit Go.Maps
def anyE (v : Value) : Option (DataW Value × List MemPlace) := some (.held v, [])
def MapAt (w : World) (P : Program) (k : TypeId) (b n : Nat) (D : DataW Value) : Prop := w.ownsMap P k anyE b n D
section
variable {P : Program} {k e t : TypeId} {w w' : World} {b n : Nat} {D : DataW Value}
theorem MapAt.made (w : World) (P : Program) (k : TypeId) {h : Nat} (hh : w.heap.size = h) : MapAt (w.alloc (.map #[] 0)) P k h 0 (.map []) := by subst hh; exact World.ownsMap_made w P k anyE
theorem MapAt.alloc (h : MapAt w P k b n D) (o : Obj) : MapAt (w.alloc o) P k b n D := World.ownsMap.alloc h o
theorem MapAt.below (h : MapAt w P k b n D) (hb : Below w.heap.size w w') : MapAt w' P k b n D := World.ownsMap.kept h (grown_of_below hb none) (by simp)
theorem MapAt.kept {row : Option Nat} (h : MapAt w P k b n D) (hg : w.grownBy w' row) (hne : some b ≠ row) : MapAt w' P k b n D := World.ownsMap.kept h hg hne
theorem MapAt.look_ok (h : MapAt w P k b n D) (K : Keyed P k) (ht : P.underlying t = some (.map k e)) {z : Value} (hz : (zeroValue e).run P w = .ok z w) {key : Value} {kl : Lit} (hkey : keyOf P k key = some kl) {v : Value} {ok : Bool}
  (hv : D.atKey kl (.held z) = .held v) (hok : Maps.has D kl = ok) : (Instr.lookup t (.map (some b)) key true).run P w = .ok (.tuple #[v, .bool ok]) w := by
 obtain ⟨v', ps, hr, hR⟩ := World.ownsMap.look_ok h K ht hz (R := anyE) rfl hkey
 rw [hv] at hR
 unfold anyE at hR
 injection hR with hR
 injection hR with hR _
 injection hR with hR
 rw [hr, hR, hok]
theorem MapAt.look (h : MapAt w P k b n D) (K : Keyed P k) (ht : P.underlying t = some (.map k e)) {z : Value} (hz : (zeroValue e).run P w = .ok z w) {key : Value} {kl : Lit} (hkey : keyOf P k key = some kl) {v : Value}
  (hv : D.atKey kl (.held z) = .held v) : (Instr.lookup t (.map (some b)) key false).run P w = .ok v w := by
 obtain ⟨v', ps, hr, hR⟩ := World.ownsMap.lookup h K ht hz (R := anyE) rfl hkey
 rw [hv] at hR
 unfold anyE at hR
 injection hR with hR
 injection hR with hR _
 injection hR with hR
 rw [hr, hR]
theorem MapAt.len (h : MapAt w P k b n D) (ht : P.underlying t = some (.map k e)) (ty : TypeId) : (Builtin.len_ #[t] ty #[.map (some b)]).run P w = .ok (.int .i64 (Maps.size D)) w := World.ownsMap.len h ht ty
theorem MapAt.store (h : MapAt w P k b n D) (K : Keyed P k) (ht : P.underlying t = some (.map k e)) (hn : n < maxLen) {key val : Value} {kl : Lit} (hkey : keyOf P k key = some kl) :
  ∃ w', (Instr.mapUpdate t (.map (some b)) key val).run P w = .ok () w' ∧ MapAt w' P k b (n + 1) (D.put kl (.held val)) ∧ w.grownBy w' (some b) := by
 obtain ⟨w', hr, h1, h2⟩ := World.ownsMap.store h K ht hn (val := val) (d := .held val) (ps := []) hkey rfl
 exact ⟨w', hr, h1, h2.grown⟩
theorem wp_insert_any {ops : Array Oper} {rest : List Oper} {o : Oper} {a : Act} {Q : Exit → Act → World → Prop} (w : World) (hg : o.guard = none) (m x v : Operand) (t : TypeId) (hop : o.op = Op.insert t m x v)
  (k e : TypeId) (K : Keyed P k) (ht : P.underlying t = some (.map k e)) (b n : Nat) (D : DataW Value) (hm : a.eval m = .map (some b)) (hown : MapAt w P k b n D) (hn : n < maxLen) (key val : Value) (kl : Lit) (hx : a.eval x = key) (hv : a.eval v = val) (hkey : keyOf P k key = some kl)
  (hK : ∀ w', MapAt w' P k b (n + 1) (D.put kl (.held val)) → w.grownBy w' (some b) → wpList P ops Q rest (a.put o.dst undef) w') : wpList P ops Q (o :: rest) a w := by
 refine wpList_plain hg fun K' hK' => ?_
 obtain ⟨w', hrun, r1, r2⟩ := hown.store K ht hn (val := val) hkey
 unfold Oper.wp
 simp [execOp, hop, hm, hx, hv, hrun, Result.andThen]
 exact hK' _ _ (hK w' r1 r2)
end
theorem int_ne {q : IntKind} {a b : Int} (h : a ≠ b) : Lit.int q a ≠ Lit.int q b := fun e => h (by injection e)
theorem at_put_int {q : IntKind} {D : DataW Value} (hD : IsMap D) (a k : Int) (d z : DataW Value) : (D.put (.int q a) d).atKey (.int q k) z = if k = a then d else D.atKey (.int q k) z := by
 by_cases h : k = a
 ·subst h; rw [if_pos rfl, atKey_put_same hD (by simp [WideAt.IsKeyLit])]
 ·rw [if_neg h, atKey_put_other (int_ne h)]
theorem has_put_int {q : IntKind} {D : DataW Value} (hD : IsMap D) (a k : Int) (d : DataW Value) : Maps.has (D.put (.int q a) d) (.int q k) = (decide (k = a) || Maps.has D (.int q k)) := by
 by_cases h : k = a
 ·subst h; rw [has_put_same hD (by simp [WideAt.IsKeyLit])]; simp
 ·rw [has_put_other (int_ne h)]; simp [h]
end
section
open Go.RowKit Go.Maps
theorem cwithin_any (n lo hi : Int) (w : World) : Calls Tryz.prog 62 #[.int .i64 n, .int .i64 lo, .int .i64 hi] w fun e w' => e = .returned (.bool (wB n lo hi)) ∧ w = w' := by
 by_cases h1 : lo ≤ n
 ·by_cases h2 : n ≤ hi
  ·have e : wB n lo hi = true := by simp [wB, h1, h2]
   have H_e := Lib.hid e; clear e
   go_enter Tryz.func62, Tryz.ntmps62
   go_wp2
   go_ret
   exact ⟨ret_bool (by rw [H_e.out]), rfl⟩
  ·have e : wB n lo hi = false := by simp [wB, h2]
   have h3 : decide (n ≤ hi) = false := by simpa using h2
   have H_e := Lib.hid e; clear e
   go_enter Tryz.func62, Tryz.ntmps62
   go_wp2
   go_ret
   exact ⟨ret_bool (by rw [H_e.out]), rfl⟩
 ·have e : wB n lo hi = false := by simp [wB, h1]
  have h3 : decide (lo ≤ n) = false := by simpa using h1
  have H_e := Lib.hid e; clear e
  go_enter Tryz.func62, Tryz.ntmps62
  go_wp2
  go_ret
  exact ⟨ret_bool (by rw [H_e.out]), rfl⟩
theorem cexponent_any (n : Int) (w : World) : Calls Tryz.prog 63 #[.int .i64 n] w fun e w' => e = .returned (.bool (wB n 0 1073741788)) ∧ w = w' := by
 have q := cwithin_any n 0 1073741788 w
 generalize wB n 0 1073741788 = R at *
 have H_q := Lib.hid q; clear q
 go_enter Tryz.func63, Tryz.ntmps63
 go_wp2_with fail
 refine H_q.out.mono ?_
 rintro e w_ ⟨rfl, rfl⟩
 go_wp2_with fail
 go_ret
 exact ⟨rfl, rfl⟩
def needV (a b c d e f : Int) : Value := .agg #[.int .i64 a, .int .i64 b, .int .i64 c, .int .i64 d, .int .i64 e, .int .i64 f]
def kindD : DataW Value := (((DataW.map []).put (.int .i64 1) (.held (needV 1 400 1 1000000000 0 0))).put (.int .i64 2) (.held (needV 0 400 0 0 0 0))).put (.int .i64 3) (.held (needV 0 400 0 0 1 1000000))
def NewMap (k : TypeId) (n : Nat) (D : DataW Value) (w : World) (e : Ending) (w' : World) : Prop := ∃ b, e = .returned (.map (some b)) ∧ MapAt w' Tryz.prog k b n D ∧ Below w.heap.size w w'
set_option maxHeartbeats 1000000 in
theorem kinds_any (w : World) : Calls Tryz.prog 61 #[] w (NewMap 3 3 kindD w) := by
 have hmm := @run_makeMap Tryz.prog
 have K : Keyed Tryz.prog 3 := int_keyed Tryz.underlying3
 have k1 : keyOf Tryz.prog 3 (.int .i64 1) = some (.int .i64 1) := keyOf_int_mk Tryz.underlying3 (by decide)
 have k2 : keyOf Tryz.prog 3 (.int .i64 2) = some (.int .i64 2) := keyOf_int_mk Tryz.underlying3 (by decide)
 have k3 : keyOf Tryz.prog 3 (.int .i64 3) = some (.int .i64 3) := keyOf_int_mk Tryz.underlying3 (by decide)
 have ⟨H_k1, H_k2, H_k3⟩ := hid3 k1 k2 k3; clear k1 k2 k3
 go_enter Tryz.func61, Tryz.ntmps61
 go_wp2_with (refine wp_insert_any _ (by rfl) (.tmp 1) _ (.tmp 5) _ (by rfl) 3 95 K Tryz.underlying97 w.heap.size 0 (.map []) (by rfl) (MapAt.made w _ _ rfl) (by unfold maxLen; omega) (.int .i64 1) (needV 1 400 1 1000000000 0 0) (.int .i64 1) (by rfl) (by rfl) H_k1.out ?_)
 intro w1 m1 g1
 go_wp2_with (refine wp_insert_any _ (by rfl) (.tmp 1) _ (.tmp 9) _ (by rfl) 3 95 K Tryz.underlying97 w.heap.size 1 _ (by rfl) m1 (by unfold maxLen; omega) (.int .i64 2) (needV 0 400 0 0 0 0) (.int .i64 2) (by rfl) (by rfl) H_k2.out ?_)
 intro w2 m2 g2
 go_wp2_with (refine wp_insert_any _ (by rfl) (.tmp 1) _ (.tmp 13) _ (by rfl) 3 95 K Tryz.underlying97 w.heap.size 2 _ (by rfl) m2 (by unfold maxLen; omega) (.int .i64 3) (needV 0 400 0 0 1 1000000) (.int .i64 3) (by rfl) (by rfl) H_k3.out ?_)
 intro w3 m3 g3
 have g12 := grown_then g1 g2 (.inl rfl)
 have g13 := grown_then g12 g3 (.inl rfl)
 have ⟨H_m1, H_m2, H_m3, H_g1, H_g2, H_g3, H_g12, H_g13⟩ := hid8 m1 m2 m3 g1 g2 g3 g12 g13; clear m1 m2 m3 g1 g2 g3 g12 g13
 go_wp2_with fail
 go_ret
 exact ⟨w.heap.size, rfl, H_m3.out, below_of_grown (grown_then ((grown_of_below ((Below.refl _ _).alloc (Nat.le_refl _) _) (some w.heap.size))) H_g13.out (.inl rfl)) (Nat.le_refl _) (Nat.le_refl _)⟩
end
section
section
variable {α : Type} {cells : α → List Value} {C : Nat}
theorem flat_get (hC : ∀ z, (cells z).length = C) : ∀ (l : List α) (i j : Nat) (z : α), j < C → l[i]? = some z → (l.flatMap cells)[i * C + j]? = (cells z)[j]?
 | [], i, j, z, _, h => by simp at h
 | y :: r, 0, j, z, hj, h => by
  have e : y = z := by simpa using h
  rw [List.flatMap_cons, Nat.zero_mul, Nat.zero_add, List.getElem?_append_left (by rw [hC]; exact hj), e]
 | y :: r, i + 1, j, z, hj, h => by
  have ih := flat_get hC r i j z hj (by simpa using h)
  rw [List.flatMap_cons, List.getElem?_append_right (by rw [hC, Nat.succ_mul]; omega), hC, ← ih]
  congr 1
  rw [Nat.succ_mul]; omega
def OwnRows (E : TypeId) (C : Nat) (cells : α → List Value) (w : World) (base : Nat) (A : Option Addr) (c : Nat) (l : List α) : Prop :=
 w.ownsRow base E C (.slice A l.length c) l.length (l.flatMap cells)
variable {E : TypeId} {w w' : World} {base : Nat} {A : Option Addr} {c : Nat} {l : List α}
theorem OwnRows.kept {row : Option Nat} (h : OwnRows E C cells w base A c l) (hg : w.grownBy w' row) (hne : blockOf A = none ∨ blockOf A ≠ row) : OwnRows E C cells w' base A c l :=
 World.ownsRow.kept h hg (by rw [ownBlock_slice]; exact hne)
theorem OwnRows.below (h : OwnRows E C cells w base A c l) (hb : Below w.heap.size w w') : OwnRows E C cells w' base A c l :=
 h.kept (grown_of_below hb none) (by cases h' : blockOf A <;> simp)
theorem OwnRows.cap (h : OwnRows E C cells w base A c l) : l.length ≤ c ∧ c ≤ maxLen := by
 rcases h.2 with ⟨hv, hn⟩ | ⟨g, cap, cur, hv, _, _, hnc, hm, _⟩
 ·injection hv with _ _ hc; exact ⟨by omega, by rw [hc]; exact Nat.zero_le _⟩
 ·injection hv with _ _ hc; exact ⟨by omega, by rw [hc]; exact hm⟩
theorem OwnRows.rows {At : World → List Value → α → Prop} (h : OwnRows E C cells w base A c l) (hC : ∀ z, (cells z).length = C) (hat : ∀ z ∈ l, At w (cells z) z) : RowsAt C At w A l := fun i z hz => by
 have hil : i < l.length := by
  rcases Nat.lt_or_ge i l.length with h1 | h1
  ·exact h1
  ·rw [List.getElem?_eq_none h1] at hz; cases hz
 rcases h.2 with ⟨hv, hn⟩ | ⟨g, cap, cur, hv, hb, hh, hnc, hm, hs, ht⟩
 ·omega
 ·injection hv with hA _ _
  subst hA
  refine ⟨g, 0, cells z, rfl, lt_of_block hh, hC z, fun j hj => ?_, hat z (List.mem_of_getElem? hz)⟩
  rw [Nat.zero_add, cell_of_row w g _ cur E (0, 0) hh]
  have h1 : (cur.toList.take (l.length * C))[i * C + j]? = (l.flatMap cells)[i * C + j]? := by rw [ht]
  have h2 : i * C + j < l.length * C := by
   have : (i + 1) * C ≤ l.length * C := Nat.mul_le_mul_right _ hil
   rw [Nat.succ_mul] at this; omega
  rw [List.getElem?_take_of_lt h2] at h1
  simp only [Array.getElem?_toList] at h1
  rw [h1, flat_get hC l i j z hj hz]
variable {P : Program}
end
end
end Go.Proofs.YtoehobaigfmnpaaGreatDoor
