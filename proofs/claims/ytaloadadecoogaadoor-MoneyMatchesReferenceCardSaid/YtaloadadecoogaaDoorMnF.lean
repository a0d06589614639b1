/- Exchanges: the table by two currencies. -/
import Derived.Test.YtaloadadecoogaaDoorMnE
import Derived.WideKeyArr2
import Derived.DeepKeys4
namespace Go.Proofs.YtaloadadecoogaaDoor
set_option linter.unusedSimpArgs false
set_option linter.unusedVariables false
set_option maxRecDepth 100000
open Go.RowKit Go.Maps

theorem laid2 : laidOutB Tryd.prog = true := by kernel_rfl
theorem row2 : 57 < Tryd.prog.types.size := of_decide_eq_true (by kernel_rfl)
theorem keyed2 : Keyed Tryd.prog 57 := Keyed.of_law (deep_law_laid laid2 (m := 9) (by omega) row2 (by kernel_rfl) (by kernel_rfl))
def KL (a b : Int) : Lit := .string (keyBytes [.int .i64 a, .int .i64 b])
theorem key2 (a b : Int) (ha : (Lit.int .i64 a).wf = true) (hb : (Lit.int .i64 b).wf = true) : keyOf Tryd.prog 57 (.agg #[.int .i64 a, .int .i64 b]) = some (KL a b) := by
  have c1 : Tryd.prog.cellsOf 3 = 1 := by kernel_rfl
  have c2 : Tryd.prog.cellsOf 57 = 2 := by kernel_rfl
  have k1 : ∀ d n, (Lit.int .i64 n).wf = true → Tryd.prog.keyLits (d + 1) 3 [.int .i64 n] = some [.int .i64 n] := fun d n h => by simp [Program.keyLits, Tryd.underlying3, h]
  obtain ⟨m0, hm0⟩ : ∃ m, Tryd.prog.types.size = m + 1 := ⟨Tryd.prog.types.size - 1, by have := row2; omega⟩
  have hk : Tryd.prog.keyType 57 = true := by kernel_rfl
  have hf : Value.formed Tryd.prog 57 (.agg #[.int .i64 a, .int .i64 b]) = true := by simp [Value.formed, Tryd.underlying57, c2]
  unfold keyOf
  simp only [Tryd.underlying57, hk, hf, Bool.and_self, if_true, hm0]
  have k2 : Tryd.prog.keyLits (m0 + 1 + 1) 57 [.int .i64 a, .int .i64 b] = some [.int .i64 a, .int .i64 b] := by
    unfold Program.keyLits
    rw [Tryd.underlying57]
    simp only [c1, c2]
    have r2 : List.range 2 = [0, 1] := rfl
    simp [c1, c2, r2, List.mapM_cons, k1 m0 _ ha, k1 m0 _ hb]
  have e : (Value.agg #[.int .i64 a, .int .i64 b]).cells.toList = [.int .i64 a, .int .i64 b] := rfl
  rw [e, k2]
  rfl
theorem KL_inj {a b c d : Int} (h1 : (Lit.int .i64 a).wf = true) (h2 : (Lit.int .i64 b).wf = true) (h3 : (Lit.int .i64 c).wf = true) (h4 : (Lit.int .i64 d).wf = true) (h : KL a b = KL c d) : a = c ∧ b = d := by
  have x := key2 a b h1 h2
  have y := key2 c d h3 h4
  rw [← h] at y
  have := keyed2.inj x y
  simp only [Value.agg.injEq, Array.mk.injEq, List.cons.injEq, Value.int.injEq, and_true, true_and] at this
  exact this
theorem KL_key (a b : Int) : WideAt.IsKeyLit (KL a b) := trivial
/-- the table of the first exchanges -/
def ratV (x : Exc) : Value := .agg #[.int .i64 x.n, .int .i64 x.d]
def tbl (l : List Exc) : DataW Value := l.foldl (fun D x => D.put (KL x.f x.t) (.held (ratV x))) (.map [])
theorem tbl_snoc (l : List Exc) (x : Exc) : tbl (l ++ [x]) = (tbl l).put (KL x.f x.t) (.held (ratV x)) := by simp [tbl]
theorem tbl_map (l : List Exc) : IsMap (tbl l) := by
  have : ∀ (l : List Exc) (D : DataW Value), IsMap D → IsMap (l.foldl (fun D x => D.put (KL x.f x.t) (.held (ratV x))) D) := fun l => by
    induction l with
    | nil => exact fun D h => h
    | cons x r ih => exact fun D h => ih _ (h.put _ _)
  exact this l _ isMap_empty
/-- the fields of an exchange are integers -/
structure XFit (x : Exc) : Prop where
  f : (Lit.int .i64 x.f).wf = true
  t : (Lit.int .i64 x.t).wf = true
  n : (Lit.int .i64 x.n).wf = true
  d : (Lit.int .i64 x.d).wf = true
theorem fold_has (a b : Int) (ha : (Lit.int .i64 a).wf = true) (hb : (Lit.int .i64 b).wf = true) : ∀ (l : List Exc) (D : DataW Value), IsMap D → (∀ x ∈ l, XFit x) → Maps.has (l.foldl (fun D x => D.put (KL x.f x.t) (.held (ratV x))) D) (KL a b) = (Maps.has D (KL a b) || decide ((a, b) ∈ l.map keyX))
  | [], D, _, _ => by simp
  | x :: r, D, hD, hf => by
    have hx := hf x List.mem_cons_self
    rw [List.foldl_cons, fold_has a b ha hb r _ (hD.put _ _) (fun y hy => hf y (List.mem_cons_of_mem _ hy))]
    by_cases h : x.f = a ∧ x.t = b
    · rw [h.1, h.2, has_put_same hD (KL_key a b)]
      simp [keyX, h.1, h.2]
    · have hne : KL x.f x.t ≠ KL a b := fun e => h (KL_inj hx.f hx.t ha hb e)
      rw [has_put_other (Ne.symm hne)]
      have : ¬ (a, b) = keyX x := fun e => h (by simp only [keyX, Prod.mk.injEq] at e; exact ⟨e.1.symm, e.2.symm⟩)
      simp [this]
theorem fold_at (a b : Int) (z : DataW Value) (ha : (Lit.int .i64 a).wf = true) (hb : (Lit.int .i64 b).wf = true) : ∀ (l : List Exc) (D : DataW Value), IsMap D → (∀ x ∈ l, XFit x) → (l.map keyX).Nodup → (l.foldl (fun D x => D.put (KL x.f x.t) (.held (ratV x))) D).atKey (KL a b) z = match fndX l a b with | some x => .held (ratV x) | none => D.atKey (KL a b) z
  | [], D, _, _, _ => rfl
  | x :: r, D, hD, hf, hn => by
    have hx := hf x List.mem_cons_self
    rw [List.map_cons, List.nodup_cons] at hn
    rw [List.foldl_cons, fold_at a b z ha hb r _ (hD.put _ _) (fun y hy => hf y (List.mem_cons_of_mem _ hy)) hn.2, fndX]
    by_cases h : x.f = a ∧ x.t = b
    · rw [if_pos h]
      have hr : fndX r a b = none := by
        cases e : fndX r a b with
        | none => rfl
        | some y =>
          obtain ⟨h1, h2, h3⟩ := fndX_mem e
          exact absurd (List.mem_map.2 ⟨y, h1, by rw [keyX, keyX, h2, h3, h.1, h.2]⟩) hn.1
      rw [hr, h.1, h.2]
      simp only
      rw [atKey_put_same hD (KL_key a b)]
    · rw [if_neg h]
      have hne : KL x.f x.t ≠ KL a b := fun e => h (KL_inj hx.f hx.t ha hb e)
      cases fndX r a b with
      | some y => rfl
      | none => simp only; rw [atKey_put_other (Ne.symm hne)]
theorem tbl_has {l : List Exc} (hf : ∀ x ∈ l, XFit x) {a b : Int} (ha : (Lit.int .i64 a).wf = true) (hb : (Lit.int .i64 b).wf = true) : Maps.has (tbl l) (KL a b) = decide ((a, b) ∈ l.map keyX) := by
  rw [tbl, fold_has a b ha hb l _ isMap_empty hf]
  simp [Maps.has]
theorem tbl_at {l : List Exc} (hf : ∀ x ∈ l, XFit x) (hn : (l.map keyX).Nodup) {a b : Int} (ha : (Lit.int .i64 a).wf = true) (hb : (Lit.int .i64 b).wf = true) : (tbl l).atKey (KL a b) (.held (.agg #[.int .i64 0, .int .i64 0])) = .held (match fndX l a b with | some x => ratV x | none => .agg #[.int .i64 0, .int .i64 0]) := by
  rw [tbl, fold_at a b _ ha hb l _ isMap_empty hf hn]
  cases fndX l a b with
  | some x => rfl
  | none => simp [DataW.atKey]
theorem fold_size : ∀ (l : List Exc) (D : DataW Value), Tidy D → (∀ x ∈ l, XFit x) → Maps.size (l.foldl (fun D x => D.put (KL x.f x.t) (.held (ratV x))) D) ≤ Maps.size D + l.length ∧ (Maps.size (l.foldl (fun D x => D.put (KL x.f x.t) (.held (ratV x))) D) = Maps.size D + l.length ↔ (l.map keyX).Nodup ∧ ∀ x ∈ l, Maps.has D (KL x.f x.t) = false)
  | [], D, _, _ => by simp
  | x :: r, D, hD, hf => by
    have hx := hf x List.mem_cons_self
    have hr : ∀ y ∈ r, XFit y := fun y hy => hf y (List.mem_cons_of_mem _ hy)
    obtain ⟨i1, i2⟩ := fold_size r (D.put (KL x.f x.t) (.held (ratV x))) (hD.put (KL_key _ _) _) hr
    have hs := size_put (k := KL x.f x.t) hD (.held (ratV x))
    rw [List.foldl_cons, List.length_cons]
    cases hh : Maps.has D (KL x.f x.t) with
    | true =>
      rw [hh, if_pos rfl] at hs
      rw [hs] at i1 i2
      refine ⟨by omega, ⟨fun e => by omega, fun e => by have := e.2 x List.mem_cons_self; rw [hh] at this; cases this⟩⟩
    | false =>
      rw [hh, if_neg (by simp)] at hs
      rw [hs] at i1 i2
      refine ⟨by omega, ?_⟩
      have e : (Maps.size D + (r.length + 1) : _) = Maps.size D + 1 + r.length := by omega
      rw [e, i2, List.map_cons, List.nodup_cons]
      have key : ∀ y ∈ r, (Maps.has (D.put (KL x.f x.t) (.held (ratV x))) (KL y.f y.t) = false ↔ Maps.has D (KL y.f y.t) = false ∧ keyX y ≠ keyX x) := fun y hy => by
        by_cases h : y.f = x.f ∧ y.t = x.t
        · rw [h.1, h.2, has_put_same hD.isMap (KL_key _ _)]
          simp [keyX, h.1, h.2]
        · have hne : KL y.f y.t ≠ KL x.f x.t := fun e => h (KL_inj (hr y hy).f (hr y hy).t hx.f hx.t e)
          rw [has_put_other hne]
          have : keyX y ≠ keyX x := fun e => h (by simp only [keyX, Prod.mk.injEq] at e; exact e)
          simp [this]
      constructor
      · rintro ⟨h1, h2⟩
        refine ⟨⟨fun hm => ?_, h1⟩, fun y hy => ?_⟩
        · obtain ⟨y, hy, e⟩ := List.mem_map.1 hm
          exact ((key y hy).1 (h2 y hy)).2 e
        · rcases List.mem_cons.1 hy with rfl | hy
          · exact hh
          · exact ((key y hy).1 (h2 y hy)).1
      · rintro ⟨⟨h1, h2⟩, h3⟩
        exact ⟨h2, fun y hy => (key y hy).2 ⟨h3 y (List.mem_cons_of_mem _ hy), fun e => h1 (List.mem_map.2 ⟨y, hy, e⟩)⟩⟩
theorem tbl_size {l : List Exc} (hf : ∀ x ∈ l, XFit x) : Maps.size (tbl l) ≤ l.length ∧ (Maps.size (tbl l) = l.length ↔ (l.map keyX).Nodup) := by
  have h := fold_size l (.map []) tidy_empty hf
  have e : Maps.size (.map [] : DataW Value) = 0 := rfl
  rw [e] at h
  refine ⟨by have := h.1; rw [tbl]; omega, ?_⟩
  have h2 := h.2
  rw [Nat.zero_add] at h2
  rw [tbl, h2]
  exact ⟨fun x => x.1, fun x => ⟨x, fun y _ => rfl⟩⟩
/-- an exchange in its four cells -/
def ExAt (_ : World) (cs : List Value) (x : Exc) : Prop := cs = x.cells ∧ XFit x
end Go.Proofs.YtaloadadecoogaaDoor
