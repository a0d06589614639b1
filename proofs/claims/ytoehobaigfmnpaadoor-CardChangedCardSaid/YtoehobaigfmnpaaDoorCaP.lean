/- Plain facts on cards: which are well-formed, which are the newest. -/
import Derived.Test.YtoehobaigfmnpaaDoorSlP
namespace Go.Proofs.YtoehobaigfmnpaaDoor
set_option linter.unusedSimpArgs false
set_option linter.unusedVariables false
set_option maxRecDepth 100000
open Go.RowKit

/-- a card's nine numbers -/
structure Crd where
  i : Int
  k : Int
  d : Int
  n : Int
  f : Int
  u : Int
  l : Int
  e : Int
  s : Int
def Crd.zero : Crd := ⟨0, 0, 0, 0, 0, 0, 0, 0, 0⟩
def Crd.cells (c : Crd) : List Value := [.int .i64 c.i, .int .i64 c.k, .int .i64 c.d, .int .i64 c.n, .int .i64 c.f, .int .i64 c.u, .int .i64 c.l, .int .i64 c.e, .int .i64 c.s]
theorem Crd.cells_len (c : Crd) : c.cells.length = 9 := rfl
theorem Crd.cells_one (c : Crd) : ∀ u ∈ c.cells, u.oneCell' = true := by
  intro u hu
  simp only [Crd.cells, List.mem_cons, List.not_mem_nil, or_false] at hu
  rcases hu with h | h | h | h | h | h | h | h | h <;> (subst h; rfl)
/-- nine numbers of the machine's -/
structure CFit (c : Crd) : Prop where
  i : -9223372036854775808 ≤ c.i ∧ c.i ≤ 9223372036854775807
  k : -9223372036854775808 ≤ c.k ∧ c.k ≤ 9223372036854775807
  d : -9223372036854775808 ≤ c.d ∧ c.d ≤ 9223372036854775807
  n : -9223372036854775808 ≤ c.n ∧ c.n ≤ 9223372036854775807
  f : -9223372036854775808 ≤ c.f ∧ c.f ≤ 9223372036854775807
  u : -9223372036854775808 ≤ c.u ∧ c.u ≤ 9223372036854775807
  l : -9223372036854775808 ≤ c.l ∧ c.l ≤ 9223372036854775807
  e : -9223372036854775808 ≤ c.e ∧ c.e ≤ 9223372036854775807
  s : -9223372036854775808 ≤ c.s ∧ c.s ≤ 9223372036854775807
/-- the kind of a card and what it asks for -/
def kindP (c : Crd) : Prop := (c.k = 1 ∧ (1 ≤ c.d ∧ c.d ≤ 400) ∧ (1 ≤ c.n ∧ c.n ≤ 1000000000) ∧ c.l = 0) ∨ (c.k = 2 ∧ (0 ≤ c.d ∧ c.d ≤ 400) ∧ c.n = 0 ∧ c.l = 0) ∨ (c.k = 3 ∧ (0 ≤ c.d ∧ c.d ≤ 400) ∧ c.n = 0 ∧ (1 ≤ c.l ∧ c.l ≤ 1000000) ∧ c.l ≠ c.i)
def baseP (c : Crd) : Prop := (0 ≤ c.e ∧ c.e < 1073741789) ∧ (0 ≤ c.s ∧ c.s < 1073741789) ∧ (1 ≤ c.i ∧ c.i ≤ 1000000) ∧ 0 ≤ c.f ∧ c.f < c.u ∧ c.u ≤ 1000000000
instance (c : Crd) : Decidable (kindP c) := by unfold kindP; infer_instance
instance (c : Crd) : Decidable (baseP c) := by unfold baseP; infer_instance
/-- whether a card is well-formed -/
def cvB (c : Crd) : Bool := decide (baseP c ∧ kindP c)
theorem cvB_iff {c : Crd} : cvB c = true ↔ baseP c ∧ kindP c := by simp [cvB]
theorem cvB_no {c : Crd} : cvB c = false ↔ ¬ (baseP c ∧ kindP c) := by simp [cvB]
theorem cfit_of {c : Crd} (h : cvB c = true) : CFit c := by
  obtain ⟨⟨h1, h2, h3, h4, h5, h6⟩, hk⟩ := cvB_iff.1 h
  rcases hk with ⟨k1, k2, k3, k4⟩ | ⟨k1, k2, k3, k4⟩ | ⟨k1, k2, k3, k4, k5⟩ <;> exact ⟨by omega, by omega, by omega, by omega, by omega, by omega, by omega, by omega, by omega⟩
theorem cfit_zero : CFit Crd.zero := ⟨by decide, by decide, by decide, by decide, by decide, by decide, by decide, by decide, by decide⟩
/-- whether two cards are the same -/
def ceqB (a b : Crd) : Bool := decide (a.i = b.i ∧ a.k = b.k ∧ a.d = b.d ∧ a.n = b.n ∧ a.f = b.f ∧ a.u = b.u ∧ a.l = b.l ∧ a.e = b.e ∧ a.s = b.s)
theorem ceqB_iff {a b : Crd} : ceqB a b = true ↔ a = b := by
  cases a; cases b; simp [ceqB]
theorem ceqB_self (a : Crd) : ceqB a a = true := ceqB_iff.2 rfl
theorem ceqB_no {a b : Crd} : ceqB a b = false ↔ a ≠ b := by rw [Bool.eq_false_iff, ne_eq, ceqB_iff]

/-- whether a card is that of a guest for a door -/
def ofB (door : Int) (c : Crd) : Bool := decide (c.k = 1 ∧ c.d = door)
/-- one card more -/
def nst (door : Int) (out : List Crd) (c : Crd) : List Crd :=
  if ofB door c = false then out else match out with
    | [] => [c]
    | o :: r => if o.n < c.n then [c] else if c.n = o.n then (o :: r) ++ [c] else o :: r
/-- the newest cards of a door -/
def newL (door : Int) (l : List Crd) : List Crd := l.foldl (nst door) []
def allV (l : List Crd) : Bool := l.all cvB
def newE (door : Int) (l : List Crd) : Int := if (decide (l.length ≤ 500) && allV l && decide (1 ≤ door ∧ door ≤ 400)) = true then 0 else 1
def newR (door : Int) (l : List Crd) : List Crd := if newE door l = 0 then newL door l else []
theorem newL_snoc (door : Int) (l : List Crd) (c : Crd) : newL door (l ++ [c]) = nst door (newL door l) c := by simp [newL, List.foldl_append]
theorem newE_iff {door : Int} {l : List Crd} : newE door l = 0 ↔ l.length ≤ 500 ∧ allV l = true ∧ 1 ≤ door ∧ door ≤ 400 := by
  unfold newE
  split
  · rename_i h; simp [Bool.and_eq_true] at h; simp [h]
  · rename_i h; simp [Bool.and_eq_true] at h; constructor
    · intro h2; omega
    · rintro ⟨h1, h2, h3, h4⟩; have := h h1 h2 h3; omega
theorem newE_01 (door : Int) (l : List Crd) : newE door l = 0 ∨ newE door l = 1 := by unfold newE; split <;> simp
/-- cards of a door with a counter -/
def mtB (door m : Int) (c : Crd) : Bool := ofB door c && decide (c.n = m)
/-- what is known of the newest ones -/
def NewIs (door : Int) (l p : List Crd) : Prop := (p = [] ∧ ∀ c ∈ l, ofB door c = false) ∨ ∃ m, p = l.filter (mtB door m) ∧ p ≠ [] ∧ ∀ c ∈ l, ofB door c = true → c.n ≤ m
theorem mtB_iff {door m : Int} {c : Crd} : mtB door m c = true ↔ ofB door c = true ∧ c.n = m := by simp [mtB]
theorem filt_none {door m : Int} {l : List Crd} (h : ∀ c ∈ l, ofB door c = true → c.n < m) : l.filter (mtB door m) = [] := by
  rw [List.filter_eq_nil_iff]; intro c hc hm
  have := mtB_iff.1 hm
  have := h c hc this.1
  omega
theorem head_filter {door m : Int} {l : List Crd} {o : Crd} {r : List Crd} (h : l.filter (mtB door m) = o :: r) : o.n = m := by
  have : o ∈ l.filter (mtB door m) := by rw [h]; simp
  exact (mtB_iff.1 (List.mem_filter.1 this).2).2
theorem newIs_nst {door : Int} {l p : List Crd} (c : Crd) (h : NewIs door l p) : NewIs door (l ++ [c]) (nst door p c) := by
  unfold nst
  by_cases ho : ofB door c = false
  · rw [if_pos ho]
    have hm : ∀ m, mtB door m c = false := fun m => by simp [mtB, ho]
    rcases h with ⟨h1, h2⟩ | ⟨m, h1, h2, h3⟩
    · refine .inl ⟨h1, fun x hx => ?_⟩
      rcases List.mem_append.1 hx with hx | hx
      · exact h2 x hx
      · rw [List.mem_singleton] at hx; rw [hx]; exact ho
    · refine .inr ⟨m, ?_, h2, fun x hx hox => ?_⟩
      · rw [List.filter_append, ← h1, List.filter_cons, hm m]; simp
      · rcases List.mem_append.1 hx with hx | hx
        · exact h3 x hx hox
        · rw [List.mem_singleton] at hx; rw [hx, ho] at hox; cases hox
  · rw [if_neg ho]
    have ho' : ofB door c = true := by simpa using ho
    have hc1 : [c].filter (mtB door c.n) = [c] := by simp [List.filter_cons, mtB, ho']
    rcases h with ⟨h1, h2⟩ | ⟨m, h1, h2, h3⟩
    · subst h1
      refine .inr ⟨c.n, ?_, by simp, fun x hx hox => ?_⟩
      · rw [List.filter_append, hc1, filt_none (fun x hx hox => by rw [h2 x hx] at hox; cases hox)]; rfl
      · rcases List.mem_append.1 hx with hx | hx
        · rw [h2 x hx] at hox; cases hox
        · rw [List.mem_singleton] at hx; rw [hx]; exact Int.le_refl _
    · cases p with
      | nil => exact absurd rfl h2
      | cons o r =>
        have hom := head_filter h1.symm
        simp only
        by_cases hlt : o.n < c.n
        · rw [if_pos hlt]
          refine .inr ⟨c.n, ?_, by simp, fun x hx hox => ?_⟩
          · rw [List.filter_append, hc1, filt_none (fun x hx hox => by have := h3 x hx hox; omega)]; rfl
          · rcases List.mem_append.1 hx with hx | hx
            · have := h3 x hx hox; omega
            · rw [List.mem_singleton] at hx; rw [hx]; exact Int.le_refl _
        · rw [if_neg hlt]
          by_cases he : c.n = o.n
          · rw [if_pos he]
            have hcm : c.n = m := by omega
            refine .inr ⟨m, ?_, by simp, fun x hx hox => ?_⟩
            · rw [List.filter_append, ← h1, ← hcm, hc1]
            · rcases List.mem_append.1 hx with hx | hx
              · exact h3 x hx hox
              · rw [List.mem_singleton] at hx; rw [hx]; omega
          · rw [if_neg he]
            have hcm : mtB door m c = false := by
              rw [Bool.eq_false_iff]; intro h4; have := mtB_iff.1 h4; omega
            refine .inr ⟨m, ?_, by simp, fun x hx hox => ?_⟩
            · rw [List.filter_append, ← h1, List.filter_cons, hcm]; simp
            · rcases List.mem_append.1 hx with hx | hx
              · exact h3 x hx hox
              · rw [List.mem_singleton] at hx; rw [hx]; omega
theorem newIs_fold {door : Int} : ∀ (l a p : List Crd), NewIs door a p → NewIs door (a ++ l) (l.foldl (nst door) p)
  | [], a, p, h => by simpa using h
  | c :: r, a, p, h => by
    have := newIs_fold r (a ++ [c]) (nst door p c) (newIs_nst c h)
    simpa using this
theorem newL_is (door : Int) (l : List Crd) : NewIs door l (newL door l) := by
  have := newIs_fold (door := door) l [] [] (.inl ⟨rfl, fun c hc => by simp at hc⟩)
  rw [List.nil_append] at this
  exact this
/-- what is so determines the newest ones -/
theorem newIs_unique {door : Int} {l p q : List Crd} (h : NewIs door l p) (h' : NewIs door l q) : p = q := by
  have key : ∀ {m : Int} {p : List Crd}, p = l.filter (mtB door m) → p ≠ [] → ∃ c, c ∈ l ∧ ofB door c = true ∧ c.n = m := fun {m p} h1 h2 => by
    cases p with
    | nil => exact absurd rfl h2
    | cons o r =>
      have : o ∈ l.filter (mtB door m) := by rw [← h1]; simp
      have h3 := List.mem_filter.1 this
      have h4 := mtB_iff.1 h3.2
      exact ⟨o, h3.1, h4.1, h4.2⟩
  rcases h with ⟨h1, h2⟩ | ⟨m, h1, h2, h3⟩ <;> rcases h' with ⟨k1, k2⟩ | ⟨m', k1, k2, k3⟩
  · rw [h1, k1]
  · obtain ⟨c, hc, ho, _⟩ := key k1 k2
    rw [h2 c hc] at ho; cases ho
  · obtain ⟨c, hc, ho, _⟩ := key h1 h2
    rw [k2 c hc] at ho; cases ho
  · obtain ⟨c, hc, ho, hn⟩ := key h1 h2
    obtain ⟨c', hc', ho', hn'⟩ := key k1 k2
    have e1 := h3 c' hc' ho'
    have e2 := k3 c hc ho
    have : m = m' := by omega
    rw [h1, k1, this]
theorem newL_mem {door : Int} {l : List Crd} {c : Crd} (h : c ∈ newL door l) : c ∈ l ∧ ofB door c = true := by
  rcases newL_is door l with ⟨h1, _⟩ | ⟨m, h1, _, _⟩
  · rw [h1] at h; simp at h
  · rw [h1] at h
    have := List.mem_filter.1 h
    exact ⟨this.1, (mtB_iff.1 this.2).1⟩
theorem newL_len (door : Int) (l : List Crd) : (newL door l).length ≤ l.length := by
  rcases newL_is door l with ⟨h1, _⟩ | ⟨m, h1, _, _⟩
  · rw [h1]; simp
  · rw [h1]; exact List.length_filter_le _ _
end Go.Proofs.YtoehobaigfmnpaaDoor
