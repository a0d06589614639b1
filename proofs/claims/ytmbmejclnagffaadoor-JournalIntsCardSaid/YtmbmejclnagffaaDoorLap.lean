/- Rows of lists: a row of the call's own whose lists lie in older memory; appending to it. -/
import Derived.Test.YtmbmejclnagffaaDoorLis
import Derived.Test.YtmbmejclnagffaaDoorLit
namespace Go.Proofs.YtmbmejclnagffaaDoor
set_option linter.unusedSimpArgs false
set_option linter.unusedVariables false
set_option maxRecDepth 100000
open Go.RowKit

/-- the values vs are slices that hold the lists ll in the world w0 -/
def SlicesOf (w0 : World) (vs : List Value) (ll : List (List Int)) : Prop :=
  ∀ i, i < ll.length → ∃ Ai ci, vs[i]? = some (.slice Ai (ll.getD i []).length ci) ∧ (ll.getD i []).length ≤ ci ∧ IntsAt w0 Ai .i64 (ll.getD i [])
/-- the slice over A is the call's own row of slices that hold the lists ll in w0 -/
def RowL (w0 w : World) (A : Option Addr) (c : Nat) (ll : List (List Int)) : Prop :=
  ∃ vs : List Value, w.ownsRow w0.heap.size 45 1 (.slice A ll.length c) ll.length vs ∧ vs.length = ll.length ∧ SlicesOf w0 vs ll
theorem SlicesOf.append {w0 : World} {vs us : List Value} {ll mm : List (List Int)} (h : SlicesOf w0 vs ll) (hv : vs.length = ll.length) (k : SlicesOf w0 us mm) : SlicesOf w0 (vs ++ us) (ll ++ mm) := fun i hi => by
  rcases Nat.lt_or_ge i ll.length with h1 | h1
  · obtain ⟨Ai, ci, e, h2, h3⟩ := h i h1
    have e2 : (ll ++ mm).getD i [] = ll.getD i [] := by simp [List.getD_eq_getElem?_getD, List.getElem?_append_left h1]
    rw [e2]
    exact ⟨Ai, ci, by rw [List.getElem?_append_left (by omega)]; exact e, h2, h3⟩
  · obtain ⟨Ai, ci, e, h2, h3⟩ := k (i - ll.length) (by simp at hi; omega)
    have e2 : (ll ++ mm).getD i [] = mm.getD (i - ll.length) [] := by simp [List.getD_eq_getElem?_getD, List.getElem?_append_right h1]
    rw [e2]
    exact ⟨Ai, ci, by rw [List.getElem?_append_right (by omega), hv]; exact e, h2, h3⟩
theorem RowL.lists {w0 w : World} {A : Option Addr} {c : Nat} {ll : List (List Int)} (h : RowL w0 w A c ll) (hb : Below w0.heap.size w0 w) : ListsAt w A ll := fun i hi => by
  obtain ⟨vs, h1, h0, h2⟩ := h
  obtain ⟨Ai, ci, e, hcap, hin⟩ := h2 i hi
  rcases h1.2 with ⟨hv, hn⟩ | ⟨g, cap, cur, hv, hb2, hh, hnc, hm, hs, ht⟩
  · omega
  · injection hv with hA _ _
    subst hA
    refine ⟨g, 0, Ai, ci, rfl, lt_of_block hh, ?_, hcap, hin.below hb⟩
    rw [Nat.zero_add, cell_of_row w g i cur _ (0, 0) hh]
    have h3 : (cur.toList.take (ll.length * 1))[i]? = vs[i]? := by rw [ht]
    rw [List.getElem?_take_of_lt (by omega)] at h3
    simp only [Array.getElem?_toList] at h3
    rw [h3, e]
theorem RowL.grow {w0 w w' : World} {A : Option Addr} {c : Nat} {ll : List (List Int)} (h : RowL w0 w A c ll) (hb : Below w0.heap.size w0 w) (hg : w.grownBy w' (blockOf A)) : Below w0.heap.size w0 w' := by
  obtain ⟨vs, h1, _⟩ := h
  exact hb.grown hg hb.size fun g hg => (h1.lt g (by rw [ownBlock_slice]; exact hg)).1
theorem RowL.alloc {w0 w : World} {A : Option Addr} {c : Nat} {ll : List (List Int)} (h : RowL w0 w A c ll) (o : Obj) : RowL w0 (w.alloc o) A c ll := by
  obtain ⟨vs, h1, h2⟩ := h
  exact ⟨vs, World.ownsRow.alloc h1 o, h2⟩
theorem RowL.below {w0 w w' : World} {A : Option Addr} {c : Nat} {ll : List (List Int)} (h : RowL w0 w A c ll) (hb : Below w.heap.size w w') : RowL w0 w' A c ll := by
  obtain ⟨vs, h1, h2⟩ := h
  exact ⟨vs, h1.kept (grown_of_below hb none) (by cases h' : Value.ownBlock (.slice A ll.length c) <;> simp), h2⟩
/-- the new empty literal -/
theorem RowL.empty {w0 w : World} (hb : w0.heap.size ≤ w.heap.size) (n : Nat) (hn : w.heap.size = n) : RowL w0 (w.alloc (.cells #[] 45)) (some ⟨n, 0, none⟩) 0 [] := by
  subst hn
  have := World.ownsRow_lit (base := w0.heap.size) (e := 45) (size := 1) w #[] 0 hb (by unfold maxLen; omega) (by simp)
  exact ⟨[], by simpa using this, rfl, fun i hi => absurd hi (by simp)⟩
/-- the cells of a slice of lists -/
theorem slices_of {w0 : World} {B : Option Addr} {mm : List (List Int)} (h : ListsAt w0 B mm) : ∃ us : List Value, us.length = mm.length ∧ SlicesOf w0 us mm ∧ ∀ i u, us[i]? = some u → ∃ b off, B = some ⟨b, off, none⟩ ∧ b < w0.heap.size ∧ w0.cell? ⟨b, off + i, none⟩ = some u := by
  have hx : ∀ i, i < mm.length → ∃ Ai ci, (∃ b off, B = some ⟨b, off, none⟩ ∧ b < w0.heap.size ∧ w0.cell? ⟨b, off + i, none⟩ = some (.slice Ai (mm.getD i []).length ci)) ∧ (mm.getD i []).length ≤ ci ∧ IntsAt w0 Ai .i64 (mm.getD i []) := fun i hi => by
    obtain ⟨b, off, Ai, ci, e, hlt, hc, hcap, hin⟩ := h i hi
    exact ⟨Ai, ci, ⟨b, off, e, hlt, hc⟩, hcap, hin⟩
  have hall : ∀ n, n ≤ mm.length → ∃ us : List Value, us.length = n ∧ ∀ i, i < n → ∃ Ai ci, us[i]? = some (.slice Ai (mm.getD i []).length ci) ∧ (∃ b off, B = some ⟨b, off, none⟩ ∧ b < w0.heap.size ∧ w0.cell? ⟨b, off + i, none⟩ = some (.slice Ai (mm.getD i []).length ci)) ∧ (mm.getD i []).length ≤ ci ∧ IntsAt w0 Ai .i64 (mm.getD i []) := fun n => by
    induction n with
    | zero => exact fun _ => ⟨[], rfl, fun i hi => absurd hi (by omega)⟩
    | succ n ih =>
      intro hn
      obtain ⟨us, hl, hu⟩ := ih (by omega)
      obtain ⟨Ai, ci, h1, h2, h3⟩ := hx n (by omega)
      refine ⟨us ++ [.slice Ai (mm.getD n []).length ci], by simp [hl], fun i hi => ?_⟩
      rcases Nat.lt_or_ge i n with h4 | h4
      · obtain ⟨Aj, cj, k1, k2⟩ := hu i h4
        exact ⟨Aj, cj, by rw [List.getElem?_append_left (by omega)]; exact k1, k2⟩
      · obtain rfl : i = n := by omega
        exact ⟨Ai, ci, by rw [List.getElem?_append_right (by omega)]; simp [hl], h1, h2, h3⟩
  obtain ⟨us, hl, hu⟩ := hall mm.length (Nat.le_refl _)
  refine ⟨us, hl, fun i hi => ?_, fun i u hi => ?_⟩
  · obtain ⟨Ai, ci, h1, _, h3⟩ := hu i hi
    exact ⟨Ai, ci, h1, h3⟩
  · have hlt : i < mm.length := by
      rcases Nat.lt_or_ge i us.length with h | h
      · omega
      · rw [List.getElem?_eq_none h] at hi; cases hi
    obtain ⟨Ai, ci, h1, h2, _⟩ := hu i hlt
    rw [h1] at hi
    injection hi with hi
    rw [← hi]; exact h2
theorem cell_new1 {w : World} {v : Value} {t : TypeId} {n : Nat} (hn : w.heap.size = n) : (w.alloc (.cells #[v] t)).cell? ⟨n, 0, none⟩ = some v := by
  subst hn
  rw [cell_of_row _ _ _ _ _ _ (heap_alloc_new w _)]; rfl
theorem infoSl : (Tryd.prog.info? 45).map (fun i => (i.zero, i.size, i.bytes)) = some (some (.slice none 0 0), 1, 24) := by kernel_rfl

theorem run_app_rows (w0 w : World) (ty : TypeId) (A : Option Addr) (c : Nat) (ll : List (List Int)) (hown : RowL w0 w A c ll) (hb : Below w0.heap.size w0 w) (B : Option Addr) (cc : Nat) (mm : List (List Int)) (us : List Value) (hul : us.length = mm.length) (hus : SlicesOf w0 us mm)
    (hc : ∀ i u, us[i]? = some u → ∃ b off, B = some ⟨b, off, none⟩ ∧ w.cell? ⟨b, off + i, none⟩ = some u) (h63 : ll.length + mm.length ≤ 1000000) :
    ∃ A' c' w', (Builtin.append_ #[65, 65] ty #[.slice A ll.length c, .slice B mm.length cc]).run Tryd.prog w = .ok (.slice A' (ll.length + mm.length) c') w' ∧ RowL w0 w' A' c' (ll ++ mm) ∧ w.grownBy w' (blockOf A) := by
  obtain ⟨i0, hi, hz0, hz1, hz2⟩ := info_parts infoSl
  obtain ⟨vs, h1, hvl, h2⟩ := hown
  rcases B with _ | ad
  · have hl : us = [] := by
      cases us with
      | nil => rfl
      | cons x r => obtain ⟨b, off, h, _⟩ := hc 0 x (by simp); cases h
    have hm : mm = [] := List.eq_nil_of_length_eq_zero (by rw [← hul, hl]; rfl)
    subst hm
    refine ⟨A, c, w, ?_, ⟨vs, by simpa using h1, by simpa using hvl, by simpa using h2⟩, grown_refl _ _⟩
    exact run_app_none w w0.heap.size _ ty _ i0 Tryd.underlying65 hi _ _ _ h1 cc
  · have hnews : ∀ j u, us[j]? = some u → w.cell? (ad.add j) = some u := by
      intro j u hj
      obtain ⟨b, off, h, hc2⟩ := hc j u hj
      injection h with h
      subst h
      rw [← hc2]
      unfold Addr.add
      split
      · rename_i h0; rw [h0]; rfl
      · rfl
    have hone : ∀ u ∈ us, u.oneCell' = true := fun u hu => by
      obtain ⟨j, hj, rfl⟩ := List.getElem_of_mem hu
      obtain ⟨Ai, ci, e, _⟩ := hus j (by omega)
      rw [List.getElem?_eq_getElem hj] at e
      injection e with e
      rw [e]; rfl
    obtain ⟨v', w', hr', h3, h4, h5, h6⟩ := run_append_own_at (P := Tryd.prog) w w0.heap.size _ ty _ i0 (.slice none 0 0) 1 24 Tryd.underlying65 hi hz0 hz1 hz2 rfl (by decide) (.slice A ll.length c) ll.length vs h1 ad mm.length cc us (by simpa using hul) hnews hone (by unfold maxLen; omega) (by omega) hb.size
    have hv : ∃ A' c', v' = .slice A' (ll.length + mm.length) c' := by
      rcases h3.2 with ⟨hv, hn⟩ | ⟨g, cap, cur, hv, _⟩
      · exact ⟨none, 0, by rw [hv, hn]⟩
      · exact ⟨_, cap, hv⟩
    obtain ⟨A', c', rfl⟩ := hv
    rw [ownBlock_slice] at h4
    exact ⟨A', c', w', hr', ⟨vs ++ us, by rw [List.length_append]; exact h3, by simp [hvl, hul], h2.append hvl hus⟩, h4⟩

theorem wp_app_rows (w0 w : World) {ops : Array Oper} {rest : List Oper} {o : Oper} {a : Act} {Q : Exit → Act → World → Prop} (hgd : o.guard = none) (s x : Operand)
    (ho : o.op = .call { callee := .builtin .append, args := #[s, x], argTypes := #[65, 65] })
    (A : Option Addr) (c n : Nat) (ll : List (List Int)) (hln : ll.length = n) (hs : a.eval s = .slice A n c) (hown : RowL w0 w A c ll) (hb : Below w0.heap.size w0 w)
    (B : Option Addr) (cc m : Nat) (mm : List (List Int)) (hmm : mm.length = m) (hx : a.eval x = .slice B m cc) (hl : ListsAt w0 B mm) (h63 : n + m ≤ 1000000)
    (h : ∀ A' c' w', RowL w0 w' A' c' (ll ++ mm) → Below w0.heap.size w0 w' → wpList Tryd.prog ops Q rest (a.put o.dst (.slice A' (n + m) c')) w') : wpList Tryd.prog ops Q (o :: rest) a w := by
  subst hln hmm
  obtain ⟨us, hul, hus, hc⟩ := slices_of hl
  obtain ⟨A', c', w', hr, h2, h3⟩ := run_app_rows w0 w o.type A c ll hown hb B cc mm us hul hus (fun i u hi => by
    obtain ⟨b, off, e, hlt, hc⟩ := hc i u hi
    exact ⟨b, off, e, (hb.cell (p := ⟨b, off + i, none⟩) hlt).trans hc⟩) h63
  refine wpList_plain hgd fun _ hK => ?_
  unfold Oper.wp execOp
  simp only [ho, resolve, invoke, builtin, Sem.run_bind, Sem.run_pure, Result.andThen_ok, List.map_toArray, List.map_cons, List.map_nil, hs, hx, hr]
  exact hK _ _ (h A' c' w' h2 (hown.grow hb h3))
/-- one list more, out of a new literal of one list -/
theorem wp_app_row1 (w0 w : World) {ops : Array Oper} {rest : List Oper} {o : Oper} {a : Act} {Q : Exit → Act → World → Prop} (hgd : o.guard = none) (s x : Operand)
    (ho : o.op = .call { callee := .builtin .append, args := #[s, x], argTypes := #[65, 65] })
    (A : Option Addr) (c n : Nat) (ll : List (List Int)) (hln : ll.length = n) (hs : a.eval s = .slice A n c) (hown : RowL w0 w A c ll) (hb : Below w0.heap.size w0 w)
    (g : Nat) (hx : a.eval x = .slice (some ⟨g, 0, none⟩) 1 1) (Ai : Option Addr) (ci m : Nat) (l : List Int) (hlm : l.length = m) (hg : w.cell? ⟨g, 0, none⟩ = some (.slice Ai m ci)) (hci : m ≤ ci) (hl : IntsAt w0 Ai .i64 l) (h63 : n + 1 ≤ 1000000)
    (h : ∀ A' c' w', RowL w0 w' A' c' (ll ++ [l]) → Below w0.heap.size w0 w' → wpList Tryd.prog ops Q rest (a.put o.dst (.slice A' (n + 1) c')) w') : wpList Tryd.prog ops Q (o :: rest) a w := by
  subst hln hlm
  obtain ⟨A', c', w', hr, h2, h3⟩ := run_app_rows w0 w o.type A c ll hown hb (some ⟨g, 0, none⟩) 1 [l] [.slice Ai l.length ci] rfl (fun i hi => by
    obtain rfl : i = 0 := by simpa using hi
    exact ⟨Ai, ci, rfl, hci, hl⟩) (fun i u hi => by
    match i, hi with
    | 0, hi => simp at hi; subst hi; exact ⟨g, 0, rfl, hg⟩) h63
  refine wpList_plain hgd fun _ hK => ?_
  unfold Oper.wp execOp
  simp only [List.length_cons, List.length_nil, Nat.zero_add] at hr
  simp only [ho, resolve, invoke, builtin, Sem.run_bind, Sem.run_pure, Result.andThen_ok, List.map_toArray, List.map_cons, List.map_nil, hs, hx, hr]
  exact hK _ _ (h A' c' w' h2 (hown.grow hb h3))
end Go.Proofs.YtmbmejclnagffaaDoor
