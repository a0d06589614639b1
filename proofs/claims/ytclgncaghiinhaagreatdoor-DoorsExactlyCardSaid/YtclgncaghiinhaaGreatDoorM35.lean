/- Doors in plain Lean: showings left out; the power that fails; one lock alone. -/
import Derived.Test.YtclgncaghiinhaaGreatDoorM34
set_option linter.unusedSimpArgs false
set_option linter.unusedVariables false
set_option maxRecDepth 100000
namespace Go.Proofs.YtclgncaghiinhaaGreatDoor
open Go.RowKit
theorem sh_ok {l : Lk} {c : Crd} {t a : Int} (h : shE l c t a = 0) : (lvB l = true ∧ cvB c = true ∧ timeB t = true ∧ ¬ a < 0 ∧ ¬ 3 < a) ∧ l.up = true ∧ chkB c l.k = true ∧ accB l c t = true ∧ shWE l c a = 0 := by
  unfold shE at h
  by_cases h1 : lvB l = true ∧ cvB c = true ∧ timeB t = true ∧ ¬ a < 0 ∧ ¬ 3 < a
  · rw [if_pos h1] at h
    by_cases h2 : l.up = true
    · rw [if_pos h2] at h
      by_cases h3 : chkB c l.k = true
      · rw [if_pos h3] at h
        by_cases h4 : accB l c t = true
        · rw [if_pos h4] at h
          exact ⟨h1, h2, h3, h4, h⟩
        · rw [if_neg h4] at h; omega
      · rw [if_neg h3] at h; omega
    · rw [if_neg h2] at h; omega
  · rw [if_neg h1] at h; omega
theorem sh_zero {l : Lk} {c : Crd} {t a : Int} (h1 : lvB l = true ∧ cvB c = true ∧ timeB t = true ∧ ¬ a < 0 ∧ ¬ 3 < a) (h2 : l.up = true) (h3 : chkB c l.k = true) (h4 : accB l c t = true) (h5 : shWE l c a = 0) : shE l c t a = 0 := by
  rw [shE, if_pos h1, if_pos h2, if_pos h3, if_pos h4, h5]
theorem wrE_at {x y : Slt} {c : Int} {l : List Int} {a b : Int} (ha : ¬ a < 0 ∧ ¬ 3 < a) (hb : ¬ b < 0 ∧ ¬ 3 < b) : wrE x y c l a = wrE x y c l b := by
  have e1 : wB a 0 3 = true := wB_iff.2 (by omega)
  have e2 : wB b 0 3 = true := wB_iff.2 (by omega)
  unfold wrE
  rw [e1, e2]
theorem shW_no {l : Lk} {c : Crd} (h : shW l c = false) : aftC l c = (keepS l).c ∧ aftL l c = (keepS l).l := by
  unfold shW at h
  rw [Bool.or_eq_false_iff] at h
  have h1 : aftC l c = (keepS l).c := by simpa using h.1
  have h2 : (aftL l c).length = (keepS l).l.length := by simpa using h.2
  refine ⟨h1, ?_⟩
  unfold aftL at h2 ⊢
  split
  · rename_i hk
    rw [if_pos hk, len_revL] at h2
    unfold revL
    split
    · rfl
    · rename_i hc; rw [if_neg hc] at h2; omega
  · rfl
theorem top_keep {l : Lk} (h : bestB l.x l.y = true) : topS l.x l.y = (keepS l).s := by
  unfold topS keepS
  rw [if_pos h]
  split <;> rfl
/-- what is left after a card: the same numbers; valid; what it keeps -/
structure Left (l z : Lk) (c : Crd) (a : Int) : Prop where
  d : z.d = l.d
  k : z.k = l.k
  r : z.r = l.r
  up : z.up = decide (a = 3)
  v : lvB z = true
  old : a < 2 → keepS z = keepS l
  new : 2 ≤ a → (keepS z).c = aftC l c ∧ (keepS z).l = aftL l c
  s : (keepS z).s ≤ (keepS l).s + 1
theorem left_of {l : Lk} {c : Crd} {t a : Int} (h : shE l c t a = 0) : Left l (shR l c t a) c a := by
  obtain ⟨⟨h1, h2, h3, h4⟩, h6, h7, h9, hw⟩ := sh_ok h
  have hb := lv_best h1
  have hf := lv_fm h1
  rw [shR, if_pos h]
  cases hW : shW l c with
  | false =>
    have hn := shW_no hW
    refine ⟨rfl, rfl, rfl, rfl, ?_, fun _ => rfl, fun _ => ?_, ?_⟩
    · simp only [lvB, Bool.false_eq_true, if_false, hb, hf, Bool.and_self]
    · exact ⟨hn.1.symm, hn.2.symm⟩
    · show (keepS l).s ≤ _; omega
  | true =>
    rw [shWE, if_pos hW] at hw
    simp only [if_true]
    rcases bestI_01 l.x l.y with hI | hI
    · obtain ⟨e, sb, s2, s3⟩ := stays0 hw hb hI
      have ek : keepS l = l.x := by rw [keepS, if_neg (by omega)]
      have h2' : a < 2 ∨ 2 ≤ a := by omega
      refine ⟨rfl, rfl, rfl, rfl, ?_, fun ha => ?_, fun ha => ?_, ?_⟩
      · simp only [lvB, e, sb, hf, Bool.and_self]
      · rw [ek]; simp only [keepS, e, s2 ha]; rw [if_neg (by omega)]
      · obtain ⟨s4, s5, _⟩ := s3 ha
        simp only [keepS, e, s4, if_true]
        exact saysS_iff.1 s5
      · rw [ek]
        rcases h2' with ha | ha
        · simp only [keepS, e, s2 ha]; rw [if_neg (by omega)]; omega
        · obtain ⟨s4, _, s6⟩ := s3 ha
          simp only [keepS, e, s4, if_true, s6]; omega
    · obtain ⟨e, sb, s2, s3⟩ := stays1 hw hb hI
      have ek : keepS l = l.y := by rw [keepS, if_pos hI]
      have h2' : a < 2 ∨ 2 ≤ a := by omega
      refine ⟨rfl, rfl, rfl, rfl, ?_, fun ha => ?_, fun ha => ?_, ?_⟩
      · simp only [lvB, e, sb, hf, Bool.and_self]
      · rw [ek]; simp only [keepS, e, s2 ha, if_true]
      · obtain ⟨s4, s5, _⟩ := s3 ha
        simp only [keepS, e, s4]
        rw [if_neg (by omega)]
        exact saysS_iff.1 s5
      · rw [ek]
        rcases h2' with ha | ha
        · simp only [keepS, e, s2 ha, if_true]; omega
        · obtain ⟨s4, _, s6⟩ := s3 ha
          simp only [keepS, e, s4]
          rw [if_neg (by omega), s6]; omega
theorem acc_iff {l : Lk} {c : Crd} {t : Int} : accB l c t = true ↔ (askB t l.r c.f c.u = true ∧ mayB t l.r c.f c.u = true) ∧ (c.d = l.d ∨ c.d = 0) ∧ ¬ c.i ∈ (keepS l).l ∧ (c.k = 1 → (keepS l).c ≤ c.n) := by
  unfold accB
  simp only [Bool.and_eq_true, Bool.or_eq_true, decide_eq_true_eq, Bool.not_eq_true', List.contains_eq_mem, decide_eq_false_iff_not]
  constructor
  · rintro ⟨⟨⟨⟨h1, h2⟩, h3⟩, h4⟩, h5⟩
    exact ⟨⟨h1, h2⟩, h3, h4, fun hk => h5.resolve_left (fun h => h hk)⟩
  · rintro ⟨⟨h1, h2⟩, h3, h4, h5⟩
    refine ⟨⟨⟨⟨h1, h2⟩, h3⟩, h4⟩, ?_⟩
    by_cases hk : c.k = 1
    · exact .inr (h5 hk)
    · exact .inl hk
theorem aft_ge (l : Lk) (c : Crd) : (keepS l).c ≤ aftC l c := by
  unfold aftC; split <;> omega
/-- where nothing was written yet, the card is accepted as before, when the power is back -/
theorem later {l : Lk} {c : Crd} {t a : Int} (h : shE l c t a = 0) {r : Lk} (hd : r.d = l.d) (hk : r.k = l.k) (hr : r.r = l.r) (hu : r.up = true) (hv : lvB r = true) (hs : keepS r = keepS l) :
    shE r c t 3 = 0 ∧ aftC r c = aftC l c ∧ aftL r c = aftL l c := by
  obtain ⟨⟨h1, h2, h3, h4⟩, h6, h7, h9, hw⟩ := sh_ok h
  have eC : aftC r c = aftC l c := by unfold aftC; rw [hs]
  have eL : aftL r c = aftL l c := by unfold aftL; rw [hs]
  have eW : shW r c = shW l c := by unfold shW; rw [eC, eL, hs]
  refine ⟨sh_zero ⟨hv, h2, h3, by omega, by omega⟩ hu (by rw [hk]; exact h7) ?_ ?_, eC, eL⟩
  · rw [acc_iff] at h9 ⊢
    rw [hd, hr, hs]; exact h9
  · unfold shWE at hw ⊢
    rw [eW, eC, eL]
    split
    · rename_i hW
      rw [if_pos hW, wrE_at (b := 3) ⟨h4.1, h4.2⟩ (by omega)] at hw
      unfold wrE at hw ⊢
      rw [top_keep (lv_best hv), hs, ← top_keep (lv_best h1)]
      exact hw
    · rfl
/-- the fields of what Show leaves are integers -/
theorem sh_fit {l : Lk} {c : Crd} {t a : Int} (hc : CFit c) (hx : SFit l.x) (hy : SFit l.y) : SFit (shR l c t a).x ∧ SFit (shR l c t a).y := by
  unfold shR
  split
  · cases shW l c with
    | false => exact ⟨hx, hy⟩
    | true =>
      have := sfit_wr (c := aftC l c) (a := a) hx hy (aftL_fit (l := l) hc hx.fit hy.fit)
      exact this
  · exact ⟨sfit_zero, sfit_zero⟩
theorem pw_of {l : Lk} (h : lvB l = true) (u : Bool) : pwR l u = { l with up := u } ∧ pwE l = 0 := by rw [pwR, pwE, if_pos h, if_pos h]; exact ⟨rfl, rfl⟩
theorem keep_up (l : Lk) (u : Bool) : keepS { l with up := u } = keepS l := rfl
theorem left_s {l : Lk} {c : Crd} {t a : Int} (h : shE l c t a = 0) : (keepS (shR l c t a)).s = if shW l c = true ∧ 2 ≤ a then (keepS l).s + 1 else (keepS l).s := by
  obtain ⟨⟨h1, h2, h3, h4⟩, h6, h7, h9, hw⟩ := sh_ok h
  have hb := lv_best h1
  rw [shR, if_pos h]
  cases hW : shW l c with
  | false => simp only [Bool.false_eq_true, false_and, if_false]; rfl
  | true =>
    rw [shWE, if_pos hW] at hw
    simp only [if_true, true_and]
    have h2' : a < 2 ∨ 2 ≤ a := by omega
    rcases bestI_01 l.x l.y with hI | hI
    · obtain ⟨e, sb, s2, s3⟩ := stays0 hw hb hI
      have ek : keepS l = l.x := by rw [keepS, if_neg (by omega)]
      rw [ek]
      rcases h2' with ha | ha
      · rw [if_neg (by omega)]; simp only [keepS, e, s2 ha]; rw [if_neg (by omega)]
      · obtain ⟨s4, _, s6⟩ := s3 ha
        rw [if_pos ha]; simp only [keepS, e, s4, if_true, s6]
    · obtain ⟨e, sb, s2, s3⟩ := stays1 hw hb hI
      have ek : keepS l = l.y := by rw [keepS, if_pos hI]
      rw [ek]
      rcases h2' with ha | ha
      · rw [if_neg (by omega)]; simp only [keepS, e, s2 ha, if_true]
      · obtain ⟨s4, _, s6⟩ := s3 ha
        rw [if_pos ha]; simp only [keepS, e, s4]
        rw [if_neg (by omega), s6]
/-- two valid locks that keep the same -/
structure Leq (l m : Lk) : Prop where
  d : l.d = m.d
  k : l.k = m.k
  r : l.r = m.r
  v : lvB l = true
  v2 : lvB m = true
  s : (keepS l).s = (keepS m).s
  c : (keepS l).c = (keepS m).c
  l : (keepS l).l = (keepS m).l
theorem Leq.refl {l : Lk} (h : lvB l = true) : Leq l l := ⟨rfl, rfl, rfl, h, h, rfl, rfl, rfl⟩
theorem Leq.up {l m : Lk} (h : Leq l m) (u w : Bool) : Leq { l with up := u } { m with up := w } := ⟨h.d, h.k, h.r, h.v, h.v2, h.s, h.c, h.l⟩
/-- a card is shown to a lock that has power: the lock, and whether the door opened -/
def stp (l : Lk) (c : Crd) (t a : Int) : Lk × Bool := if shE { l with up := true } c t a = 0 then (shR { l with up := true } c t a, shO { l with up := true } c t a) else ({ l with up := true }, false)
theorem stp_v {l : Lk} {c : Crd} {t a : Int} (h : lvB l = true) : lvB (stp l c t a).1 = true := by
  unfold stp; split
  · rename_i e; exact (left_of e).v
  · exact h
/-- a showing: the lock, the card, the time, the moment -/
structure Shw where
  i : Nat
  j : Nat
  t : Int
  a : Int
def lkD (ls : List Lk) (i : Nat) : Lk := ls.getD i Lk.zero
def cdD (cs : List Crd) (j : Nat) : Crd := cs.getD j Crd.zero
/-- one showing -/
def oneS (cs : List Crd) (ls : List Lk) (s : Shw) : List Lk := ls.set s.i (stp (lkD ls s.i) (cdD cs s.j) s.t s.a).1
def oneO (cs : List Crd) (ls : List Lk) (s : Shw) : Bool := (stp (lkD ls s.i) (cdD cs s.j) s.t s.a).2
/-- the locks after showings, and which opened -/
def runS (cs : List Crd) : List Lk → List Shw → List Lk
  | ls, [] => ls
  | ls, s :: r => runS cs (oneS cs ls s) r
def runO (cs : List Crd) : List Lk → List Shw → List Bool
  | _, [] => []
  | ls, s :: r => oneO cs ls s :: runO cs (oneS cs ls s) r
theorem runS_append (cs : List Crd) : ∀ (ls : List Lk) (p q : List Shw), runS cs ls (p ++ q) = runS cs (runS cs ls p) q
  | _, [], _ => rfl
  | ls, s :: r, q => runS_append cs (oneS cs ls s) r q
theorem runO_append (cs : List Crd) : ∀ (ls : List Lk) (p q : List Shw), runO cs ls (p ++ q) = runO cs ls p ++ runO cs (runS cs ls p) q
  | _, [], _ => rfl
  | ls, s :: r, q => by rw [List.cons_append, runO, runO, runO_append cs _ r q, List.cons_append, runS]
theorem runS_len (cs : List Crd) : ∀ (ls : List Lk) (p : List Shw), (runS cs ls p).length = ls.length
  | _, [] => rfl
  | ls, s :: r => by rw [runS, runS_len cs _ r, oneS, List.length_set]
theorem runO_len (cs : List Crd) : ∀ (ls : List Lk) (p : List Shw), (runO cs ls p).length = p.length
  | _, [] => rfl
  | ls, s :: r => by rw [runO, List.length_cons, List.length_cons, runO_len cs _ r]
theorem lkD_set {ls : List Lk} {i k : Nat} {x : Lk} (hi : i < ls.length) : lkD (ls.set i x) k = if k = i then x else lkD ls k := by
  unfold lkD
  rw [List.getD_eq_getElem?_getD, List.getD_eq_getElem?_getD, List.getElem?_set]
  by_cases h : k = i
  · subst h; simp [hi]
  · rw [if_neg (fun e => h e.symm), if_neg h]
theorem oneS_at {cs : List Crd} {ls : List Lk} {s : Shw} (h : s.i < ls.length) (k : Nat) : lkD (oneS cs ls s) k = if k = s.i then (stp (lkD ls s.i) (cdD cs s.j) s.t s.a).1 else lkD ls k := lkD_set h
/-- all locks are valid, all showings are of these locks -/
def AllV (ls : List Lk) : Prop := ∀ k, k < ls.length → lvB (lkD ls k) = true
theorem oneS_v {cs : List Crd} {ls : List Lk} {s : Shw} (h : AllV ls) (hs : s.i < ls.length) : AllV (oneS cs ls s) := fun k hk => by
  rw [oneS, List.length_set] at hk
  rw [oneS_at hs]
  split
  · exact stp_v (h s.i hs)
  · exact h k hk
/-- two lists of locks that keep the same -/
def RLeq (ls ms : List Lk) : Prop := ls.length = ms.length ∧ ∀ k, k < ls.length → Leq (lkD ls k) (lkD ms k)
theorem RLeq.refl {ls : List Lk} (h : AllV ls) : RLeq ls ls := ⟨rfl, fun k hk => Leq.refl (h k hk)⟩
def wntS : List Shw → List Bool → List Bool
  | s :: r, b :: o => if 2 ≤ s.a then b :: wntS r o else wntS r o
  | _, _ => []
/-- the showings of one lock, of it alone -/
def ownS (k : Nat) (p : List Shw) : List Shw := (p.filter fun s => decide (s.i = k)).map fun s => { s with i := 0 }
def wntK (k : Nat) : List Shw → List Bool → List Bool
  | s :: r, b :: o => if s.i = k then b :: wntK k r o else wntK k r o
  | _, _ => []
theorem apart_run (cs : List Crd) (k : Nat) : ∀ (p : List Shw) (ls : List Lk) (l : Lk), (∀ s ∈ p, s.i < ls.length) → k < ls.length → lkD ls k = l → wntK k p (runO cs ls p) = runO cs [l] (ownS k p) ∧ [lkD (runS cs ls p) k] = runS cs [l] (ownS k p)
  | [], ls, l, _, _, h => ⟨rfl, by rw [← h]; rfl⟩
  | x :: r, ls, l, hp, hk, h => by
    have hx := hp x List.mem_cons_self
    have hr : ∀ s ∈ r, s.i < (oneS cs ls x).length := fun s hs => by rw [oneS, List.length_set]; exact hp s (List.mem_cons_of_mem _ hs)
    have hk2 : k < (oneS cs ls x).length := by rw [oneS, List.length_set]; exact hk
    by_cases e : x.i = k
    · have e1 : ownS k (x :: r) = { x with i := 0 } :: ownS k r := by simp only [ownS]; rw [List.filter_cons, if_pos (by simpa using e)]; rfl
      have e2 : oneS cs [l] { x with i := 0 } = [lkD (oneS cs ls x) k] := by
        rw [oneS_at hx, if_pos e.symm, e, h]; rfl
      obtain ⟨i1, i2⟩ := apart_run cs k r (oneS cs ls x) _ hr hk2 rfl
      rw [runO, wntK, if_pos e, i1, e1, runO, runS, runS, e2]
      refine ⟨?_, i2⟩
      congr 1
      simp only [oneO, e, h]; rfl
    · have e1 : ownS k (x :: r) = ownS k r := by simp only [ownS]; rw [List.filter_cons, if_neg (by simpa using e)]
      have e2 : lkD (oneS cs ls x) k = l := by rw [oneS_at hx, if_neg (fun h2 => e h2.symm), h]
      obtain ⟨i1, i2⟩ := apart_run cs k r (oneS cs ls x) l hr hk2 e2
      rw [runO, wntK, if_neg e, i1, e1, runS]
      exact ⟨rfl, i2⟩
end Go.Proofs.YtclgncaghiinhaaGreatDoor
