/- The plain laws of lock.Show. -/
import Derived.Test.YtclgncaghiinhaaGreatDoorU21
import Derived.Test.YtclgncaghiinhaaGreatDoorU32
import Derived.Test.YtclgncaghiinhaaGreatDoorU33
import Derived.Test.YtclgncaghiinhaaGreatDoorU34
set_option linter.unusedSimpArgs false
set_option linter.unusedVariables false
set_option maxRecDepth 100000
namespace Go.Proofs.YtclgncaghiinhaaGreatDoor
open Go.RowKit
/-- whether something is written -/
def shW (l : Lk) (c : Crd) : Bool := !decide (aftC l c = (keepS l).c) || !decide ((aftL l c).length = (keepS l).l.length)
def shWE (l : Lk) (c : Crd) (a : Int) : Int := if shW l c = true then wrE l.x l.y (aftC l c) (aftL l c) a else 0
/-- the error number of Show -/
def shE (l : Lk) (c : Crd) (t a : Int) : Int :=
 if lvB l = true ∧ cvB c = true ∧ timeB t = true ∧ ¬ a < 0 ∧ ¬ 3 < a then
  if l.up = true then if chkB c l.k = true then if accB l c t = true then shWE l c a else 50 else 9 else 51
 else 1
/-- the lock that Show leaves -/
def shR (l : Lk) (c : Crd) (t a : Int) : Lk :=
 if shE l c t a = 0 then ⟨l.d, l.k, l.r, if shW l c = true then wr0 l.x l.y (aftC l c) (aftL l c) a else l.x, if shW l c = true then wr1 l.x l.y (aftC l c) (aftL l c) a else l.y, decide (a = 3)⟩ else Lk.zero
/-- whether the door opens -/
def shO (l : Lk) (c : Crd) (t a : Int) : Bool := if shE l c t a = 0 then decide (a = 3) && !decide (c.k = 3) else false
theorem sh_err {l : Lk} {c : Crd} {t a E : Int} (e : shE l c t a = E) (h : E ≠ 0) : shR l c t a = Lk.zero ∧ shO l c t a = false := by
 rw [shR, shO, e, if_neg h, if_neg h]; exact ⟨rfl, rfl⟩
theorem kind_of {c : Crd} (h : cvB c = true) : c.k = 1 ∨ c.k = 2 ∨ c.k = 3 := by
 obtain ⟨_, hk⟩ := cvB_iff.1 h
 rcases hk with hk | hk | hk <;> simp [hk.1]
theorem lv_best {l : Lk} (h : lvB l = true) : bestB l.x l.y = true := by
 unfold lvB at h; simp only [Bool.and_eq_true] at h; exact h.1
theorem lv_fm {l : Lk} (h : lvB l = true) : fmB l.d l.k l.r = true := by
 unfold lvB at h; simp only [Bool.and_eq_true] at h; exact h.2
theorem lv_mem {l : Lk} (h : lvB l = true) : memZ l.k = true := by
 have := lv_fm h
 unfold fmB at this; simp only [Bool.and_eq_true] at this; exact this.1.2
theorem chkE_zero {l : Lk} {c : Crd} (h1 : lvB l = true) (h2 : cvB c = true) : chkE c l.k = 0 := by
 simp [chkE, h2, lv_mem h1]
theorem keep_in {l : Lk} (h : bestB l.x l.y = true) : (0 ≤ (keepS l).c ∧ (keepS l).c ≤ 1000000000) ∧ (keepS l).l.length ≤ 500 := by
 have h1 := keep_ok h
 simp only [Slt.ok, vldB, Bool.and_eq_true] at h1
 have h2 := fldB_iff.1 h1.1
 omega
theorem aftC_in {l : Lk} {c : Crd} (hc : CFit c) (h : bestB l.x l.y = true) : -9223372036854775808 ≤ aftC l c ∧ aftC l c ≤ 9223372036854775807 := by
 have h1 := (keep_in h).1
 have h2 := hc.n
 unfold aftC
 split
 ·omega
 ·omega
theorem mem_insL {l : List Int} {i : Nat} {x y : Int} : y ∈ insL l i x ↔ y = x ∨ y ∈ l := by
 unfold insL
 rw [List.mem_append, List.mem_cons]
 constructor
 ·rintro (h | h | h)
  ·exact .inr (List.mem_of_mem_take h)
  ·exact .inl h
  ·exact .inr (List.mem_of_mem_drop h)
 ·rintro (h | h)
  ·exact .inr (.inl h)
  ·rw [← List.take_append_drop i l, List.mem_append] at h
   rcases h with h | h
   ·exact .inl h
   ·exact .inr (.inr h)
theorem mem_revL {L : List Int} {x y : Int} : y ∈ revL L x ↔ y = x ∨ y ∈ L := by
 unfold revL
 split
 ·rename_i h
  constructor
  ·exact .inr
  ·rintro (rfl | h2)
   ·simpa using h
   ·exact h2
 ·exact mem_insL
theorem len_revL (L : List Int) (x : Int) : (revL L x).length = if L.contains x = true then L.length else L.length + 1 := by
 unfold revL
 split
 ·rfl
 ·exact insL_len _ _ _
theorem aftL_fit {l : Lk} {c : Crd} (hc : CFit c) (hx : Fit l.x.l) (hy : Fit l.y.l) : Fit (aftL l c) := by
 have hk : Fit (keepS l).l := by unfold keepS; split <;> assumption
 unfold aftL
 split
 ·intro y hy
  rcases mem_revL.1 hy with rfl | h
  ·exact hc.l
  ·exact hk y h
 ·exact hk
theorem aftL_len (l : Lk) (c : Crd) : (aftL l c).length ≤ (keepS l).l.length + 1 := by
 unfold aftL
 split
 ·rw [len_revL]; split <;> omega
 ·omega
theorem show_any (l : Lk) (c : Crd) (t a : Int) (A : Option Addr) (n p : Nat) (B : Option Addr) (m q : Nat) (w : World) (hx : SlotIs w A n l.x) (hy : SlotIs w B m l.y) (ht : Tab w) (hc : CFit c) :
    Calls Tryz.prog 87 #[.agg (l.cells A n p B m q).toArray, .agg c.cells.toArray, .int .i64 t, .int .i64 a] w (ShowPost A l.x.l B l.y.l (shR l c t a) (shO l c t a) (shE l c t a) w) := by
  by_cases h1 : lvB l = true
  rotate_left
  · have e : shE l c t a = 1 := by rw [shE, if_neg (fun h => h1 h.1)]
    rw [(sh_err e (by omega)).1, (sh_err e (by omega)).2, e]
    exact show_e1 l c t a A n p B m q w hx hy ht hc (by simpa using h1)
  by_cases h2 : cvB c = true
  rotate_left
  · have e : shE l c t a = 1 := by rw [shE, if_neg (fun h => h2 h.2.1)]
    rw [(sh_err e (by omega)).1, (sh_err e (by omega)).2, e]
    exact show_e2 l c t a A n p B m q w hx hy ht hc h1 (by simpa using h2)
  by_cases h3 : timeB t = true
  rotate_left
  · have e : shE l c t a = 1 := by rw [shE, if_neg (fun h => h3 h.2.2.1)]
    rw [(sh_err e (by omega)).1, (sh_err e (by omega)).2, e]
    exact show_e3 l c t a A n p B m q w hx hy ht hc h1 h2 (by simpa using h3)
  by_cases h4 : a < 0
  · have e : shE l c t a = 1 := by rw [shE, if_neg (fun h => h.2.2.2.1 h4)]
    rw [(sh_err e (by omega)).1, (sh_err e (by omega)).2, e]
    exact show_e4 l c t a A n p B m q w hx hy ht hc h1 h2 h3 h4
  by_cases h5 : 3 < a
  · have e : shE l c t a = 1 := by rw [shE, if_neg (fun h => h.2.2.2.2 h5)]
    rw [(sh_err e (by omega)).1, (sh_err e (by omega)).2, e]
    exact show_e5 l c t a A n p B m q w hx hy ht hc h1 h2 h3 h4 h5
  have e0 : shE l c t a = if l.up = true then if chkB c l.k = true then if accB l c t = true then shWE l c a else 50 else 9 else 51 := by rw [shE, if_pos ⟨h1, h2, h3, h4, h5⟩]
  by_cases h6 : l.up = true
  rotate_left
  · have e : shE l c t a = 51 := by rw [e0, if_neg h6]
    rw [(sh_err e (by omega)).1, (sh_err e (by omega)).2, e]
    exact show_e6 l c t a A n p B m q w hx hy ht hc h1 h2 h3 h4 h5 (by simpa using h6)
  have h8 := chkE_zero h1 h2
  by_cases h7 : chkB c l.k = true
  rotate_left
  · have e : shE l c t a = 9 := by rw [e0, if_pos h6, if_neg h7]
    rw [(sh_err e (by omega)).1, (sh_err e (by omega)).2, e]
    exact show_e7 l c t a A n p B m q w hx hy ht hc h1 h2 h3 h4 h5 h6 (by simpa using h7) h8
  by_cases h9 : accB l c t = true
  rotate_left
  · have e : shE l c t a = 50 := by rw [e0, if_pos h6, if_pos h7, if_neg h9]
    rw [(sh_err e (by omega)).1, (sh_err e (by omega)).2, e]
    exact show_e8 l c t a A n p B m q w hx hy ht hc h1 h2 h3 h4 h5 h6 h7 h8 (by simpa using h9)
  rw [if_pos h6, if_pos h7, if_pos h9] at e0
  have hk := kind_of h2
  have hbb := lv_best h1
  have hcb := aftC_in (l := l) hc hbb
  have hfl := aftL_fit (l := l) (c := c) hc hx.fit hy.fit
  have hll : (aftL l c).length ≤ 501 := by have := aftL_len l c; have := (keep_in hbb).2; omega
  have hb (x y : Int) : (x != y) = !decide (x = y) := rfl
  have hW : ((aftC l c != (keepS l).c) || (((aftL l c).length : Int) != ((keepS l).l.length : Int))) = shW l c := by
    rw [shW, hb, hb]
    congr 2
    rw [Bool.eq_iff_iff, decide_eq_true_eq, decide_eq_true_eq]; omega
  by_cases hEE : shW l c = true ∧ ¬ wrE l.x l.y (aftC l c) (aftL l c) a = 0
  · obtain ⟨hW1, hE⟩ := hEE
    rw [shWE, if_pos hW1] at e0
    rw [(sh_err e0 hE).1, (sh_err e0 hE).2, e0]
    by_cases hC : aftC l c = (keepS l).c
    · have hL : ¬ (aftL l c).length = (keepS l).l.length := fun h => by
        rw [shW, decide_eq_true hC, decide_eq_true h] at hW1; cases hW1
      exact show_x2 l c t a A n p B m q w hx hy ht hc h1 h2 h3 h4 h5 h6 h7 h8 h9 hk hbb hcb hfl hll hC hL hE
    · exact show_x1 l c t a A n p B m q w hx hy ht hc h1 h2 h3 h4 h5 h6 h7 h8 h9 hk hbb hcb hfl hll hC hE
  · have e : shE l c t a = 0 := by
      rw [e0, shWE]
      split
      · rename_i h; exact Decidable.byContradiction fun h2 => hEE ⟨h, h2⟩
      · rfl
    have this := show_ok l c t a A n p B m q w hx hy ht hc h1 h2 h3 h4 h5 h6 h7 h8 h9 hk hbb (if shW l c = true then wr0 l.x l.y (aftC l c) (aftL l c) a else l.x) (if shW l c = true then wr1 l.x l.y (aftC l c) (aftL l c) a else l.y) (shW l c) hcb hfl hll hW
      (fun h => by rw [h]; exact ⟨rfl, rfl⟩) (fun h => ⟨Decidable.byContradiction fun h8 => hEE ⟨h, h8⟩, by rw [if_pos h], by rw [if_pos h]⟩)
    rw [e, shR, if_pos e, shO, if_pos e]
    exact this
theorem sh_ok {l : Lk} {c : Crd} {t a : Int} (h : shE l c t a = 0) : (lvB l = true ∧ cvB c = true ∧ timeB t = true ∧ ¬ a < 0 ∧ ¬ 3 < a) ∧ l.up = true ∧ chkB c l.k = true ∧ accB l c t = true ∧ shWE l c a = 0 := by
 unfold shE at h
 by_cases h1 : lvB l = true ∧ cvB c = true ∧ timeB t = true ∧ ¬ a < 0 ∧ ¬ 3 < a
 ·rw [if_pos h1] at h
  by_cases h2 : l.up = true
  ·rw [if_pos h2] at h
   by_cases h3 : chkB c l.k = true
   ·rw [if_pos h3] at h
    by_cases h4 : accB l c t = true
    ·rw [if_pos h4] at h
     exact ⟨h1, h2, h3, h4, h⟩
    ·rw [if_neg h4] at h; omega
   ·rw [if_neg h3] at h; omega
  ·rw [if_neg h2] at h; omega
 ·rw [if_neg h1] at h; omega
theorem sh_zero {l : Lk} {c : Crd} {t a : Int} (h1 : lvB l = true ∧ cvB c = true ∧ timeB t = true ∧ ¬ a < 0 ∧ ¬ 3 < a) (h2 : l.up = true) (h3 : chkB c l.k = true) (h4 : accB l c t = true) (h5 : shWE l c a = 0) : shE l c t a = 0 := by
 rw [shE, if_pos h1, if_pos h2, if_pos h3, if_pos h4, h5]
theorem wrE_at {x y : Slt} {c : Int} {l : List Int} {a b : Int} (ha : ¬ a < 0 ∧ ¬ 3 < a) (hb : ¬ b < 0 ∧ ¬ 3 < b) : wrE x y c l a = wrE x y c l b := by
 have e1 : wB a 0 3 = true := wB_iff.2 (by omega)
 have e2 : wB b 0 3 = true := wB_iff.2 (by omega)
 unfold wrE
 rw [e1, e2]
theorem shW_no {l : Lk} {c : Crd} (h : shW l c = false) : aftC l c = (keepS l).c ∧ aftL l c = (keepS l).l := by
 unfold shW at h
 rw [Bool.or_eq_false_iff] at h
 have h1 : aftC l c = (keepS l).c := by simpa using h.1
 have h2 : (aftL l c).length = (keepS l).l.length := by simpa using h.2
 refine ⟨h1, ?_⟩
 unfold aftL at h2 ⊢
 split
 ·rename_i hk
  rw [if_pos hk, len_revL] at h2
  unfold revL
  split
  ·rfl
  ·rename_i hc; rw [if_neg hc] at h2; omega
 ·rfl
theorem top_keep {l : Lk} (h : bestB l.x l.y = true) : topS l.x l.y = (keepS l).s := by
 unfold topS keepS
 rw [if_pos h]
 split <;> rfl
/-- what is left after a card: the same numbers; valid; what it keeps -/
structure Left (l z : Lk) (c : Crd) (a : Int) : Prop where
 d : z.d = l.d
 k : z.k = l.k
 r : z.r = l.r
 up : z.up = decide (a = 3)
 v : lvB z = true
 old : a < 2 → keepS z = keepS l
 new : 2 ≤ a → (keepS z).c = aftC l c ∧ (keepS z).l = aftL l c
 s : (keepS z).s ≤ (keepS l).s + 1
theorem left_of {l : Lk} {c : Crd} {t a : Int} (h : shE l c t a = 0) : Left l (shR l c t a) c a := by
 obtain ⟨⟨h1, h2, h3, h4⟩, h6, h7, h9, hw⟩ := sh_ok h
 have hb := lv_best h1
 have hf := lv_fm h1
 rw [shR, if_pos h]
 cases hW : shW l c with
 | false =>
  have hn := shW_no hW
  refine ⟨rfl, rfl, rfl, rfl, ?_, fun _ => rfl, fun _ => ?_, ?_⟩
  ·simp only [lvB, Bool.false_eq_true, if_false, hb, hf, Bool.and_self]
  ·exact ⟨hn.1.symm, hn.2.symm⟩
  ·show (keepS l).s ≤ _; omega
 | true =>
  rw [shWE, if_pos hW] at hw
  simp only [if_true]
  rcases bestI_01 l.x l.y with hI | hI
  ·obtain ⟨e, sb, s2, s3⟩ := stays0 hw hb hI
   have ek : keepS l = l.x := by rw [keepS, if_neg (by omega)]
   have h2' : a < 2 ∨ 2 ≤ a := by omega
   refine ⟨rfl, rfl, rfl, rfl, ?_, fun ha => ?_, fun ha => ?_, ?_⟩
   ·simp only [lvB, e, sb, hf, Bool.and_self]
   ·rw [ek]; simp only [keepS, e, s2 ha]; rw [if_neg (by omega)]
   ·obtain ⟨s4, s5, _⟩ := s3 ha
    simp only [keepS, e, s4, if_true]
    exact saysS_iff.1 s5
   ·rw [ek]
    rcases h2' with ha | ha
    ·simp only [keepS, e, s2 ha]; rw [if_neg (by omega)]; omega
    ·obtain ⟨s4, _, s6⟩ := s3 ha
     simp only [keepS, e, s4, if_true, s6]; omega
  ·obtain ⟨e, sb, s2, s3⟩ := stays1 hw hb hI
   have ek : keepS l = l.y := by rw [keepS, if_pos hI]
   have h2' : a < 2 ∨ 2 ≤ a := by omega
   refine ⟨rfl, rfl, rfl, rfl, ?_, fun ha => ?_, fun ha => ?_, ?_⟩
   ·simp only [lvB, e, sb, hf, Bool.and_self]
   ·rw [ek]; simp only [keepS, e, s2 ha, if_true]
   ·obtain ⟨s4, s5, _⟩ := s3 ha
    simp only [keepS, e, s4]
    rw [if_neg (by omega)]
    exact saysS_iff.1 s5
   ·rw [ek]
    rcases h2' with ha | ha
    ·simp only [keepS, e, s2 ha, if_true]; omega
    ·obtain ⟨s4, _, s6⟩ := s3 ha
     simp only [keepS, e, s4]
     rw [if_neg (by omega), s6]; omega
theorem acc_iff {l : Lk} {c : Crd} {t : Int} : accB l c t = true ↔ (askB t l.r c.f c.u = true ∧ mayB t l.r c.f c.u = true) ∧ (c.d = l.d ∨ c.d = 0) ∧ ¬ c.i ∈ (keepS l).l ∧ (c.k = 1 → (keepS l).c ≤ c.n) := by
 unfold accB
 simp only [Bool.and_eq_true, Bool.or_eq_true, decide_eq_true_eq, Bool.not_eq_true', List.contains_eq_mem, decide_eq_false_iff_not]
 constructor
 ·rintro ⟨⟨⟨⟨h1, h2⟩, h3⟩, h4⟩, h5⟩
  exact ⟨⟨h1, h2⟩, h3, h4, fun hk => h5.resolve_left (fun h => h hk)⟩
 ·rintro ⟨⟨h1, h2⟩, h3, h4, h5⟩
  refine ⟨⟨⟨⟨h1, h2⟩, h3⟩, h4⟩, ?_⟩
  by_cases hk : c.k = 1
  ·exact .inr (h5 hk)
  ·exact .inl hk
theorem aft_mem {l : Lk} {c : Crd} {y : Int} (h : y ∈ (keepS l).l) : y ∈ aftL l c := by
 unfold aftL
 split
 ·exact mem_revL.2 (.inr h)
 ·exact h
theorem aft_ge (l : Lk) (c : Crd) : (keepS l).c ≤ aftC l c := by
 unfold aftC; split <;> omega
/-- where nothing was written yet, the card is accepted as before, when the power is back -/
theorem later {l : Lk} {c : Crd} {t a : Int} (h : shE l c t a = 0) {r : Lk} (hd : r.d = l.d) (hk : r.k = l.k) (hr : r.r = l.r) (hu : r.up = true) (hv : lvB r = true) (hs : keepS r = keepS l) :
  shE r c t 3 = 0 ∧ aftC r c = aftC l c ∧ aftL r c = aftL l c := by
 obtain ⟨⟨h1, h2, h3, h4⟩, h6, h7, h9, hw⟩ := sh_ok h
 have eC : aftC r c = aftC l c := by unfold aftC; rw [hs]
 have eL : aftL r c = aftL l c := by unfold aftL; rw [hs]
 have eW : shW r c = shW l c := by unfold shW; rw [eC, eL, hs]
 refine ⟨sh_zero ⟨hv, h2, h3, by omega, by omega⟩ hu (by rw [hk]; exact h7) ?_ ?_, eC, eL⟩
 ·rw [acc_iff] at h9 ⊢
  rw [hd, hr, hs]; exact h9
 ·unfold shWE at hw ⊢
  rw [eW, eC, eL]
  split
  ·rename_i hW
   rw [if_pos hW, wrE_at (b := 3) ⟨h4.1, h4.2⟩ (by omega)] at hw
   unfold wrE at hw ⊢
   rw [top_keep (lv_best hv), hs, ← top_keep (lv_best h1)]
   exact hw
  ·rfl
/-- the fields of what Show leaves are integers -/
theorem sh_fit {l : Lk} {c : Crd} {t a : Int} (hc : CFit c) (hx : SFit l.x) (hy : SFit l.y) : SFit (shR l c t a).x ∧ SFit (shR l c t a).y := by
 unfold shR
 split
 ·cases shW l c with
  | false => exact ⟨hx, hy⟩
  | true =>
   have := sfit_wr (c := aftC l c) (a := a) hx hy (aftL_fit (l := l) hc hx.fit hy.fit)
   exact this
 ·exact ⟨sfit_zero, sfit_zero⟩
theorem pw_of {l : Lk} (h : lvB l = true) (u : Bool) : pwR l u = { l with up := u } ∧ pwE l = 0 := by rw [pwR, pwE, if_pos h, if_pos h]; exact ⟨rfl, rfl⟩
theorem keep_up (l : Lk) (u : Bool) : keepS { l with up := u } = keepS l := rfl
/-- what is lost stays lost -/
theorem lost_stays {l : Lk} {c : Crd} {t a x : Int} (h : shE l c t a = 0) (hx : x ∈ (keepS l).l) : x ∈ (keepS (shR l c t a)).l := by
 have hL := left_of h
 by_cases ha : a < 2
 ·rw [hL.old ha]; exact hx
 ·rw [(hL.new (by omega)).2]; exact aft_mem hx
theorem lost_new {l : Lk} {c : Crd} {t a : Int} (h : shE l c t a = 0) (ha : 2 ≤ a) (hk : c.k = 3) : c.l ∈ (keepS (shR l c t a)).l := by
 rw [((left_of h).new ha).2, aftL, if_pos hk]
 exact mem_revL.2 (.inl rfl)
end Go.Proofs.YtclgncaghiinhaaGreatDoor
