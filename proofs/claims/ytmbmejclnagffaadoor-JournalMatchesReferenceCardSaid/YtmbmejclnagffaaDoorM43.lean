/- Statements' helpers: Party, Count; entries. -/
import Derived.Test.YtmbmejclnagffaaDoorM42
set_option linter.unusedSimpArgs false
set_option linter.unusedVariables false
set_option maxRecDepth 100000
namespace Go.Proofs.YtmbmejclnagffaaDoor
open Go.RowKit
theorem rParty_any (n : Int) (w : World) : Calls Tryd.prog 28 #[.int .i64 n] w fun e w' => e = .returned (.bool (ptyB n)) ∧ w = w' := by
  by_cases h1 : 1000 ≤ n
  · have i1 : decide ((1000 : Int) ≤ n) = true := decide_eq_true h1
    have e : ptyB n = decide (n < 5000) := by rw [ptyB, i1, Bool.true_and]
    have H_e := Lib.hid e; clear e
    go_enter Tryd.func28, Tryd.ntmps28
    go_wp2_with fail
    go_ret
    exact ⟨ret_bool H_e.out.symm, rfl⟩
  · have i1 : decide ((1000 : Int) ≤ n) = false := decide_eq_false h1
    have e : ptyB n = false := by rw [ptyB, i1, Bool.false_and]
    have H_e := Lib.hid e; clear e
    go_enter Tryd.func28, Tryd.ntmps28
    go_wp2_with fail
    go_ret
    exact ⟨ret_bool H_e.out.symm, rfl⟩
set_option maxHeartbeats 4000000 in
theorem rCount_any (k : Int) (hk : 1 ≤ k ∧ k ≤ 9) (w : World) : Calls Tryd.prog 32 #[.int .i64 k] w fun e w' => e = .returned (.int .i64 (cntI k)) ∧ Below w.heap.size w w' := by
  have b : Below w.heap.size w (w.alloc (.cells #[.int .i64 (-1), .int .i64 7, .int .i64 1, .int .i64 3, .int .i64 3, .int .i64 4, .int .i64 3, .int .i64 2, .int .i64 6, .int .i64 4] 3)) := (Below.refl _ _).alloc (Nat.le_refl _) _
  have H_b := Lib.hid b; clear b
  rcases (show k = 1 ∨ k = 2 ∨ k = 3 ∨ k = 4 ∨ k = 5 ∨ k = 6 ∨ k = 7 ∨ k = 8 ∨ k = 9 by omega) with rfl | rfl | rfl | rfl | rfl | rfl | rfl | rfl | rfl
  all_goals
    go_enter Tryd.func32, Tryd.ntmps32
    go_wp2_with fail
    go_ret
    exact ⟨rfl, H_b.out⟩
/-- an entry, with the place of its integers -/
structure Ent where
  t : Int
  k : Int
  A : Option Addr
  c : Nat
  a : List Int
def Ent.cells (x : Ent) : List Value := [.int .u16 x.t, .int .u8 x.k, .slice x.A x.a.length x.c]
structure EFit (x : Ent) : Prop where
  t : 0 ≤ x.t ∧ x.t ≤ 65535
  k : 0 ≤ x.k ∧ x.k ≤ 255
  n : x.a.length ≤ 9223372036854775807
  a : ∀ v ∈ x.a, 0 ≤ v ∧ v ≤ 65535
def EntAt (w : World) (cs : List Value) (x : Ent) : Prop := cs = x.cells ∧ EFit x ∧ x.a.length ≤ x.c ∧ IntsAt w x.A .u16 x.a
def Ents (w : World) (A : Option Addr) (l : List Ent) : Prop := RowsAt 3 EntAt w A l
theorem Ents.below {w w' : World} {A : Option Addr} {l : List Ent} (h : Ents w A l) (hb : Below w.heap.size w w') : Ents w' A l := RowsAt.below h (fun _ _ h => ⟨h.1, h.2.1, h.2.2.1, h.2.2.2.below hb⟩) hb
theorem Ents.at {w : World} {A : Option Addr} {l : List Ent} (h : Ents w A l) {i : Nat} {x : Ent} (hi : l[i]? = some x) : ∃ b off, A = some ⟨b, off, none⟩ ∧ b < w.heap.size ∧ (EFit x ∧ x.a.length ≤ x.c ∧ IntsAt w x.A .u16 x.a) ∧
    w.cell? ⟨b, off + i * 3, none⟩ = some (.int .u16 x.t) ∧ w.cell? ⟨b, off + i * 3 + 1, none⟩ = some (.int .u8 x.k) ∧ w.cell? ⟨b, off + i * 3 + 2, none⟩ = some (.slice x.A x.a.length x.c) := by
  obtain ⟨b, off, cs, e, hlt, hl, hc, rfl, hf, hn, hi2⟩ := h i x hi
  refine ⟨b, off, e, hlt, ⟨hf, hn, hi2⟩, ?_, ?_, ?_⟩
  · exact hc 0 (by omega)
  all_goals (rw [Nat.add_assoc])
  · exact hc 1 (by omega)
  · exact hc 2 (by omega)
/-- the kind of an entry's message, its integers -/
def kd (x : Ent) : Int := 1 + x.k % 9
def ar (x : Ent) : List Int := (List.range (cntI (kd x)).toNat).map (fun j => x.a.getD j 0)
theorem kd_in {x : Ent} : 1 ≤ kd x ∧ kd x ≤ 9 := by unfold kd; omega
theorem ar_len (x : Ent) : ((ar x).length : Int) = cntI (kd x) := by
  have := cntI_le (kd x)
  unfold ar; simp; omega
theorem ar_in {x : Ent} (h : EFit x) : ∀ v ∈ ar x, 0 ≤ v ∧ v ≤ 65535 := fun v hv => by
  unfold ar at hv
  obtain ⟨j, _, rfl⟩ := List.mem_map.1 hv
  rcases Nat.lt_or_ge j x.a.length with h1 | h1
  · rw [List.getD_eq_getElem?_getD, List.getElem?_eq_getElem h1]; exact h.a _ (List.getElem_mem h1)
  · rw [List.getD_eq_getElem?_getD, List.getElem?_eq_none h1]; simp
theorem msg_put {party : Int} (hp : ptyB party = true) {x : Ent} (hx : EFit x) {s t : Int} (hs : 1 ≤ s ∧ s ≤ 5000) (ht : 0 ≤ t ∧ t ≤ 1000000000) (A : Option Addr) (c : Nat) : msgB ⟨party, s, t, kd x, A, c, ar x⟩ = true := by
  rw [msgB_iff]
  refine ⟨hp, hs, inJ_iff.2 ht, kd_in, ar_len x, fun v hv => inJ_iff.2 ?_⟩
  have := ar_in hx v hv
  omega
/-- the block of a list that was made -/
theorem blk_made {w' : World} {base g n : Nat} (h : w'.ownsRow base 3 1 (.slice (some ⟨g, 0, none⟩) n n) n (madeCells #[.int .i64 0] n).toList) : Blk w' g ((List.replicate n (0 : Int)).map (Value.int .i64)).toArray := fun o v hv => by
  rcases h.2 with ⟨h1, _⟩ | ⟨g', cap, cur, hv', _, hh, _, _, hs, ht⟩
  · cases h1
  · injection hv' with h1 _ h2
    injection h1 with h1
    injection h1 with h1 _
    subst h1 h2
    have ho : o < n := by
      rcases Nat.lt_or_ge o n with h3 | h3
      · exact h3
      · rw [Array.getElem?_eq_none (by simp; exact h3)] at hv; cases hv
    refine ⟨lt_of_block hh, ?_, frozen_of_row _ _ _ _ _ hh⟩
    rw [cell_of_row _ _ _ _ _ _ hh]
    rw [Nat.mul_one, toList_madeCells_one, List.take_of_length_le (by rw [Array.length_toList, hs]; omega)] at ht
    rw [← Array.getElem?_toList, ht]
    have e : v = .int .i64 0 := by simpa [List.getElem?_replicate, ho] using hv.symm
    rw [e, List.getElem?_replicate, if_pos ho]
/-- how far the list is filled -/
def Fil (x : Ent) (n k : Nat) (l : List Int) : Prop := l.length = n ∧ ∀ j, j < n → l.getD j 0 = if j < k then x.a.getD j 0 else 0
theorem Fil.zero (x : Ent) (n : Nat) : Fil x n 0 (List.replicate n 0) := ⟨by simp, fun j hj => by simp [List.getD_eq_getElem?_getD, List.getElem?_replicate, hj]⟩
theorem Fil.pass {x : Ent} {n k : Nat} {l : List Int} (h : Fil x n k l) (hk : x.a.length ≤ k) : Fil x n (k + 1) l := ⟨h.1, fun j hj => by
  rw [h.2 j hj]
  by_cases h1 : j < k
  · rw [if_pos h1, if_pos (by omega)]
  · rw [if_neg h1]
    split
    · rw [List.getD_eq_getElem?_getD, List.getElem?_eq_none (by omega)]; rfl
    · rfl⟩
theorem Fil.set {x : Ent} {n k : Nat} {l : List Int} (h : Fil x n k l) (hk : k < n) : Fil x n (k + 1) (l.set k (x.a.getD k 0)) := ⟨by rw [List.length_set]; exact h.1, fun j hj => by
  rw [List.getD_eq_getElem?_getD, List.getElem?_set]
  by_cases h1 : k = j
  · subst h1; rw [if_pos rfl, if_pos (by rw [h.1]; exact hk), if_pos (by omega)]; rfl
  · rw [if_neg h1, ← List.getD_eq_getElem?_getD, h.2 j hj]
    by_cases h2 : j < k
    · rw [if_pos h2, if_pos (by omega)]
    · rw [if_neg h2, if_neg (by omega)]⟩
theorem Fil.full {x : Ent} {n : Nat} {l : List Int} (h : Fil x n n l) (hn : (n : Int) = cntI (kd x)) : l = ar x := by
  apply List.ext_getElem
  · have := ar_len x; rw [h.1]; omega
  · intro j h1 h2
    have h3 := h.2 j (by rw [← h.1]; exact h1)
    rw [if_pos (by rw [← h.1]; exact h1)] at h3
    rw [List.getD_eq_getElem?_getD, List.getElem?_eq_getElem h1] at h3
    simp only [Option.getD_some] at h3
    rw [h3]
    simp [ar]
theorem blk_fill {w : World} {b k : Nat} {l : List Int} (h : Blk w b (l.map (Value.int .i64)).toArray) (v : Int) (hk : k < l.length) : Blk (w.setCell ⟨b, k, none⟩ (.int .i64 v)) b ((l.set k v).map (Value.int .i64)).toArray := by
  have := h.set k (.int .i64 v) (by simp; exact hk)
  rw [List.setIfInBounds_toArray, ← List.map_set] at this
  exact this
theorem blk_ints {w : World} {b : Nat} {l : List Int} (h : Blk w b (l.map (Value.int .i64)).toArray) : IntsAt w (some ⟨b, 0, none⟩) .i64 l := fun i hi => by
  have := h i (.int .i64 (l.getD i 0)) (by simp [List.getD_eq_getElem?_getD, hi])
  refine ⟨b, 0, rfl, this.lt, ?_⟩
  rw [Nat.zero_add]; exact this.at
end Go.Proofs.YtmbmejclnagffaaDoor
