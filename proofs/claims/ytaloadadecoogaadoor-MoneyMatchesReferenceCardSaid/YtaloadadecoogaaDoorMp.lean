/- Maps of the call's own whose elements are any values. -/
import Derived.Test.YtaloadadecoogaaDoorCel
import Derived.Maps.OwnSet
import Derived.Maps.OwnOps
namespace Go.Proofs.YtaloadadecoogaaDoor
set_option linter.unusedSimpArgs false
set_option linter.unusedVariables false
set_option maxRecDepth 100000
open Go.RowKit Go.Maps

/-- an element is read as itself -/
def anyE (v : Value) : Option (DataW Value × List MemPlace) := some (.held v, [])
/-- block b is a map over keys of the type k, of at most n entries, that holds D -/
def MapAt (w : World) (P : Program) (k : TypeId) (b n : Nat) (D : DataW Value) : Prop := w.ownsMap P k anyE b n D
section
variable {P : Program} {k e t : TypeId} {w w' : World} {b n : Nat} {D : DataW Value}
theorem MapAt.made (w : World) (P : Program) (k : TypeId) {h : Nat} (hh : w.heap.size = h) : MapAt (w.alloc (.map #[] 0)) P k h 0 (.map []) := by subst hh; exact World.ownsMap_made w P k anyE
theorem MapAt.alloc (h : MapAt w P k b n D) (o : Obj) : MapAt (w.alloc o) P k b n D := World.ownsMap.alloc h o
theorem MapAt.drewN (h : MapAt w P k b n D) (m : Nat) : MapAt (w.drewN m) P k b n D := h
theorem MapAt.lt (h : MapAt w P k b n D) : b < w.heap.size := World.ownsMap.lt h
theorem MapAt.below (h : MapAt w P k b n D) (hb : Below w.heap.size w w') : MapAt w' P k b n D := World.ownsMap.kept h (grown_of_below hb none) (by simp)
theorem MapAt.kept {row : Option Nat} (h : MapAt w P k b n D) (hg : w.grownBy w' row) (hne : some b ≠ row) : MapAt w' P k b n D := World.ownsMap.kept h hg hne
theorem MapAt.set (h : MapAt w P k b n D) {a : Addr} (ha : b ≠ a.block) (u : Value) : MapAt (w.setCell a u) P k b n D := World.ownsMap.setCell h ha u
/-- m[k], with and without ok -/
theorem MapAt.look_ok (h : MapAt w P k b n D) (K : Keyed P k) (ht : P.underlying t = some (.map k e)) {z : Value} (hz : (zeroValue e).run P w = .ok z w) {key : Value} {kl : Lit} (hkey : keyOf P k key = some kl) {v : Value} {ok : Bool}
    (hv : D.atKey kl (.held z) = .held v) (hok : Maps.has D kl = ok) : (Instr.lookup t (.map (some b)) key true).run P w = .ok (.tuple #[v, .bool ok]) w := by
  obtain ⟨v', ps, hr, hR⟩ := World.ownsMap.look_ok h K ht hz (R := anyE) rfl hkey
  rw [hv] at hR
  unfold anyE at hR
  injection hR with hR
  injection hR with hR _
  injection hR with hR
  rw [hr, hR, hok]
theorem MapAt.look (h : MapAt w P k b n D) (K : Keyed P k) (ht : P.underlying t = some (.map k e)) {z : Value} (hz : (zeroValue e).run P w = .ok z w) {key : Value} {kl : Lit} (hkey : keyOf P k key = some kl) {v : Value}
    (hv : D.atKey kl (.held z) = .held v) : (Instr.lookup t (.map (some b)) key false).run P w = .ok v w := by
  obtain ⟨v', ps, hr, hR⟩ := World.ownsMap.lookup h K ht hz (R := anyE) rfl hkey
  rw [hv] at hR
  unfold anyE at hR
  injection hR with hR
  injection hR with hR _
  injection hR with hR
  rw [hr, hR]
theorem MapAt.len (h : MapAt w P k b n D) (ht : P.underlying t = some (.map k e)) (ty : TypeId) : (Builtin.len_ #[t] ty #[.map (some b)]).run P w = .ok (.int .i64 (Maps.size D)) w := World.ownsMap.len h ht ty
theorem MapAt.store (h : MapAt w P k b n D) (K : Keyed P k) (ht : P.underlying t = some (.map k e)) (hn : n < maxLen) {key val : Value} {kl : Lit} (hkey : keyOf P k key = some kl) :
    ∃ w', (Instr.mapUpdate t (.map (some b)) key val).run P w = .ok () w' ∧ MapAt w' P k b (n + 1) (D.put kl (.held val)) ∧ w.grownBy w' (some b) := by
  obtain ⟨w', hr, h1, h2⟩ := World.ownsMap.store h K ht hn (val := val) (d := .held val) (ps := []) hkey rfl
  exact ⟨w', hr, h1, h2.grown⟩
/-- an entry of a literal, at the operation -/
theorem wp_insert_any {ops : Array Oper} {rest : List Oper} {o : Oper} {a : Act} {Q : Exit → Act → World → Prop} (w : World) (hg : o.guard = none) (m x v : Operand) (t : TypeId) (hop : o.op = Op.insert t m x v)
    (k e : TypeId) (K : Keyed P k) (ht : P.underlying t = some (.map k e)) (b n : Nat) (D : DataW Value) (hm : a.eval m = .map (some b)) (hown : MapAt w P k b n D) (hn : n < maxLen) (key val : Value) (kl : Lit) (hx : a.eval x = key) (hv : a.eval v = val) (hkey : keyOf P k key = some kl)
    (hK : ∀ w', MapAt w' P k b (n + 1) (D.put kl (.held val)) → w.grownBy w' (some b) → wpList P ops Q rest (a.put o.dst undef) w') : wpList P ops Q (o :: rest) a w := by
  refine wpList_plain hg fun K' hK' => ?_
  obtain ⟨w', hrun, r1, r2⟩ := hown.store K ht hn (val := val) hkey
  unfold Oper.wp
  simp [execOp, hop, hm, hx, hv, hrun, Result.andThen]
  exact hK' _ _ (hK w' r1 r2)
/-- m[k] = v, at the operation -/
theorem wp_update_any {ops : Array Oper} {rest : List Oper} {o : Oper} {a : Act} {Q : Exit → Act → World → Prop} (w : World) (hg : o.guard = none) (m x v : Operand) (t : TypeId) (hop : o.op = Op.mapUpdate t m x v)
    (k e : TypeId) (K : Keyed P k) (ht : P.underlying t = some (.map k e)) (b n : Nat) (D : DataW Value) (hm : a.eval m = .map (some b)) (hown : MapAt w P k b n D) (hn : n < maxLen) (key val : Value) (kl : Lit) (hx : a.eval x = key) (hv : a.eval v = val) (hkey : keyOf P k key = some kl)
    (hK : ∀ w', MapAt w' P k b (n + 1) (D.put kl (.held val)) → w.grownBy w' (some b) → wpList P ops Q rest (a.put o.dst undef) w') : wpList P ops Q (o :: rest) a w := by
  refine wpList_plain hg fun K' hK' => ?_
  obtain ⟨w', hrun, r1, r2⟩ := hown.store K ht hn (val := val) hkey
  unfold Oper.wp
  simp [execOp, hop, hm, hx, hv, hrun, Result.andThen]
  exact hK' _ _ (hK w' r1 r2)
end
theorem int_ne {q : IntKind} {a b : Int} (h : a ≠ b) : Lit.int q a ≠ Lit.int q b := fun e => h (by injection e)
theorem at_put_int {q : IntKind} {D : DataW Value} (hD : IsMap D) (a k : Int) (d z : DataW Value) : (D.put (.int q a) d).atKey (.int q k) z = if k = a then d else D.atKey (.int q k) z := by
  by_cases h : k = a
  · subst h; rw [if_pos rfl, atKey_put_same hD (by simp [WideAt.IsKeyLit])]
  · rw [if_neg h, atKey_put_other (int_ne h)]
theorem has_put_int {q : IntKind} {D : DataW Value} (hD : IsMap D) (a k : Int) (d : DataW Value) : Maps.has (D.put (.int q a) d) (.int q k) = (decide (k = a) || Maps.has D (.int q k)) := by
  by_cases h : k = a
  · subst h; rw [has_put_same hD (by simp [WideAt.IsKeyLit])]; simp
  · rw [has_put_other (int_ne h)]; simp [h]
end Go.Proofs.YtaloadadecoogaaDoor
