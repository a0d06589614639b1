/- Words for memory: slices of slices of integers. -/
import Derived.Test.YtmbmejclnagffaaDoorMem
namespace Go.Proofs.YtmbmejclnagffaaDoor
set_option linter.unusedSimpArgs false
set_option linter.unusedVariables false
set_option maxRecDepth 100000
open Go.RowKit

/-- the slice over A holds lists of integers -/
def ListsAt (w : World) (A : Option Addr) (ll : List (List Int)) : Prop :=
  ∀ i, i < ll.length → ∃ b off Ai ci, A = some ⟨b, off, none⟩ ∧ b < w.heap.size ∧ w.cell? ⟨b, off + i, none⟩ = some (.slice Ai (ll.getD i []).length ci) ∧ (ll.getD i []).length ≤ ci ∧ IntsAt w Ai .i64 (ll.getD i [])
theorem ListsAt.below {w w' : World} {A : Option Addr} {ll : List (List Int)} (h : ListsAt w A ll) (hb : Below w.heap.size w w') : ListsAt w' A ll := fun i hi => by
  obtain ⟨b, off, Ai, ci, e, hlt, hc, hcap, hi'⟩ := h i hi
  exact ⟨b, off, Ai, ci, e, by have := hb.size; omega, (hb.cell (p := ⟨b, off + i, none⟩) hlt).trans hc, hcap, hi'.below hb⟩
theorem ListsAt.nil {w : World} {A : Option Addr} : ListsAt w A [] := fun i hi => absurd hi (by simp)
theorem ListsAt.take {w : World} {A : Option Addr} {ll : List (List Int)} (h : ListsAt w A ll) (n : Nat) : ListsAt w A (ll.take n) := fun i hi => by
  have hi' : i < ll.length ∧ i < n := by simp at hi; omega
  obtain ⟨b, off, Ai, ci, e, hlt, hc, hcap, hin⟩ := h i hi'.1
  have e2 : (ll.take n).getD i [] = ll.getD i [] := by simp [List.getD_eq_getElem?_getD, List.getElem?_take, hi'.2]
  rw [e2]
  exact ⟨b, off, Ai, ci, e, hlt, hc, hcap, hin⟩
theorem ListsAt.drop {w : World} {b off : Nat} {ll : List (List Int)} (h : ListsAt w (some ⟨b, off, none⟩) ll) (n : Nat) : ListsAt w (some ⟨b, off + n, none⟩) (ll.drop n) := fun i hi => by
  have hi' : n + i < ll.length := by simp at hi; omega
  obtain ⟨b', off', Ai, ci, e, hlt, hc, hcap, hin⟩ := h (n + i) hi'
  injection e with e
  injection e with e1 e2
  subst e1 e2
  have e2 : (ll.drop n).getD i [] = ll.getD (n + i) [] := by simp [List.getD_eq_getElem?_getD, List.getElem?_drop]
  rw [e2]
  exact ⟨b, off + n, Ai, ci, rfl, hlt, by rw [Nat.add_assoc]; exact hc, hcap, hin⟩

/-- a row of the call's own of rows of the call's own -/
def OwnLists (w : World) (base : Nat) (A : Option Addr) (c : Nat) (ll : List (List Int)) : Prop :=
  ∃ vs : List Value, w.ownsRow base 45 1 (.slice A ll.length c) ll.length vs ∧
    ∀ i, i < ll.length → ∃ Ai ci, vs[i]? = some (.slice Ai (ll.getD i []).length ci) ∧ OwnInts w base 3 .i64 Ai ci (ll.getD i [])
theorem OwnLists.nil (w : World) (base : Nat) : OwnLists w base none 0 [] := ⟨[], World.ownsRow_nil w base _ 1, fun i hi => absurd hi (by simp)⟩
theorem own_ne {w : World} {base : Nat} {E F : TypeId} {v v' : Value} {n m : Nat} {xs ys : List Value} (h : w.ownsRow base E 1 v n xs) (h' : w.ownsRow base F 1 v' m ys) (hne : E ≠ F) : v'.ownBlock = none ∨ v'.ownBlock ≠ v.ownBlock := by
  rcases h.2 with ⟨rfl, _⟩ | ⟨g, cap, cur, rfl, _, hh, _⟩
  · rcases h'.2 with ⟨rfl, _⟩ | ⟨g', cap', cur', rfl, _, hh', _⟩
    · exact .inl rfl
    · exact .inr (by simp [Value.ownBlock])
  · rcases h'.2 with ⟨rfl, _⟩ | ⟨g', cap', cur', rfl, _, hh', _⟩
    · exact .inl rfl
    · refine .inr ?_
      simp only [Value.ownBlock, ne_eq, Option.some.injEq]
      rintro rfl
      rw [hh] at hh'
      injection hh' with hh'
      injection hh' with _ ht
      exact hne ht
theorem OwnLists.below {w w' : World} {base : Nat} {A : Option Addr} {c : Nat} {ll : List (List Int)} (h : OwnLists w base A c ll) (hb : Below w.heap.size w w') : OwnLists w' base A c ll := by
  obtain ⟨vs, h1, h2⟩ := h
  refine ⟨vs, h1.kept (grown_of_below hb none) (by cases h' : Value.ownBlock (.slice A ll.length c) <;> simp), fun i hi => ?_⟩
  obtain ⟨Ai, ci, e, ho⟩ := h2 i hi
  exact ⟨Ai, ci, e, ho.below hb⟩
theorem OwnLists.alloc {w : World} {base : Nat} {A : Option Addr} {c : Nat} {ll : List (List Int)} (h : OwnLists w base A c ll) (o : Obj) : OwnLists (w.alloc o) base A c ll :=
  h.below ((Below.refl _ _).alloc (Nat.le_refl _) o)
theorem OwnLists.cap {w : World} {base : Nat} {A : Option Addr} {c : Nat} {ll : List (List Int)} (h : OwnLists w base A c ll) : ll.length ≤ c := by
  obtain ⟨vs, h1, _⟩ := h
  rcases h1.2 with ⟨hv, hn⟩ | ⟨g, cap, cur, hv, _, _, hnc, _⟩
  · injection hv with _ _ hc; omega
  · injection hv with _ _ hc; omega
theorem OwnLists.lt {w : World} {base : Nat} {A : Option Addr} {c : Nat} {ll : List (List Int)} (h : OwnLists w base A c ll) : ∀ g, blockOf A = some g → base ≤ g ∧ g < w.heap.size := fun g hg => by
  obtain ⟨vs, h1, _⟩ := h
  exact h1.lt g (by rw [ownBlock_slice]; exact hg)
theorem OwnLists.base_le {w : World} {base base' : Nat} {A : Option Addr} {c : Nat} {ll : List (List Int)} (h : OwnLists w base A c ll) (hb : base' ≤ base) : OwnLists w base' A c ll := by
  obtain ⟨vs, ⟨h1, h1'⟩, h2⟩ := h
  refine ⟨vs, ⟨h1, ?_⟩, fun i hi => ?_⟩
  · rcases h1' with h2 | ⟨g, cap, cur, hv, hg, hr⟩
    · exact .inl h2
    · exact .inr ⟨g, cap, cur, hv, by omega, hr⟩
  · obtain ⟨Ai, ci, e, h3, h4⟩ := h2 i hi
    refine ⟨Ai, ci, e, h3, ?_⟩
    rcases h4 with h4 | ⟨g, cap, cur, hv, hg, hr⟩
    · exact .inl h4
    · exact .inr ⟨g, cap, cur, hv, by omega, hr⟩
theorem OwnLists.lists {w : World} {base : Nat} {A : Option Addr} {c : Nat} {ll : List (List Int)} (h : OwnLists w base A c ll) : ListsAt w A ll := fun i hi => by
  obtain ⟨vs, h1, h2⟩ := h
  obtain ⟨Ai, ci, e, ho⟩ := h2 i hi
  rcases h1.2 with ⟨hv, hn⟩ | ⟨g, cap, cur, hv, hb, hh, hnc, hm, hs, ht⟩
  · omega
  · injection hv with hA _ _
    subst hA
    refine ⟨g, 0, Ai, ci, rfl, lt_of_block hh, ?_, ho.cap, ho.ints⟩
    rw [Nat.zero_add, cell_of_row w g i cur _ (0, 0) hh]
    have h3 : (cur.toList.take (ll.length * 1))[i]? = vs[i]? := by rw [ht]
    rw [List.getElem?_take_of_lt (by omega)] at h3
    simp only [Array.getElem?_toList] at h3
    rw [h3, e]

theorem infoSlice : (Tryd.prog.info? 45).map (fun i => (i.zero, i.size, i.bytes)) = some (some (.slice none 0 0), 1, 24) := by kernel_rfl

/-- one list more -/
theorem wp_app_list (w : World) {ops : Array Oper} {rest : List Oper} {o : Oper} {a : Act} {Q : Exit → Act → World → Prop} (hgd : o.guard = none) (s x : Operand)
    (ho : o.op = .call { callee := .builtin .append, args := #[s, x], argTypes := #[65, 65] })
    (base : Nat) (A : Option Addr) (c : Nat) (ll : List (List Int)) (hs : a.eval s = .slice A ll.length c) (hown : OwnLists w base A c ll)
    (Ai : Option Addr) (ci : Nat) (li : List Int) (hli : OwnInts w base 3 .i64 Ai ci li) (n : Nat) (hx : a.eval x = .slice (some ⟨n, 0, none⟩) 1 1) (hn : w.cell? ⟨n, 0, none⟩ = some (.slice Ai li.length ci))
    (h63 : ll.length ≤ 1000000) (hbase : base ≤ w.heap.size)
    (h : ∀ A' c' w', OwnLists w' base A' c' (ll ++ [li]) → w.grownBy w' (blockOf A) → wpList Tryd.prog ops Q rest (a.put o.dst (.slice A' (ll.length + 1) c')) w') : wpList Tryd.prog ops Q (o :: rest) a w := by
  obtain ⟨i0, hi, hz0, hz1, hz2⟩ := info_parts infoSlice
  obtain ⟨vs, h1, h2⟩ := hown
  have hvl : vs.length = ll.length := by have := h1.1; omega
  refine wpList_append_own_at w hgd s x _ ho base 45 i0 _ 1 24 Tryd.underlying65 hi hz0 hz1 hz2 rfl (by decide) (.slice A ll.length c) ll.length vs hs h1 ⟨n, 0, none⟩ 1 1 [.slice Ai li.length ci] hx rfl ?_ (by simp [Value.oneCell']) (by unfold maxLen; omega) (by omega) hbase ?_
  · intro j u hj
    match j, hj with
    | 0, hj => simp at hj; subst hj; simpa [Addr.add] using hn
  · intro v' w' h3 h4 h5 h6
    have hv : ∃ A' c', v' = .slice A' (ll.length + 1) c' := by
      rcases h3.2 with ⟨hv, hn⟩ | ⟨g, cap, cur, hv, _⟩
      · omega
      · exact ⟨_, cap, hv⟩
    obtain ⟨A', c', rfl⟩ := hv
    rw [ownBlock_slice] at h4
    refine h A' c' w' ⟨vs ++ [.slice Ai li.length ci], by simpa using h3, fun i hi => ?_⟩ h4
    have keep : ∀ {B : Option Addr} {d : Nat} {l2 : List Int}, OwnInts w base 3 .i64 B d l2 → OwnInts w' base 3 .i64 B d l2 := fun {B d l2} hB => by
      refine hB.kept h4 ?_
      have := own_ne h1 hB (by decide)
      rw [ownBlock_slice, ownBlock_slice] at this
      exact this
    rcases Nat.lt_or_ge i ll.length with hlt | hge
    · obtain ⟨B, d, e, hB⟩ := h2 i hlt
      have e2 : (ll ++ [li]).getD i [] = ll.getD i [] := by simp [List.getD_eq_getElem?_getD, List.getElem?_append_left hlt]
      rw [e2]
      exact ⟨B, d, by rw [List.getElem?_append_left (by omega)]; exact e, keep hB⟩
    · have hii : i = ll.length := by simp at hi; omega
      subst hii
      have e2 : (ll ++ [li]).getD ll.length [] = li := by simp [List.getD_eq_getElem?_getD]
      rw [e2]
      exact ⟨Ai, ci, by rw [List.getElem?_append_right (by omega)]; simp [hvl], keep hli⟩
end Go.Proofs.YtmbmejclnagffaaDoor
