/- Money in plain Lean: exchanges and conversion. -/
import Derived.Test.YtaloadadecoogaaDoorMnP
namespace Go.Proofs.YtaloadadecoogaaDoor
set_option linter.unusedSimpArgs false
set_option linter.unusedVariables false
set_option maxRecDepth 100000
open Go.RowKit

/-- an exchange: from, to, and the rate n / d -/
structure Exc where
  f : Int
  t : Int
  n : Int
  d : Int
def Exc.cells (x : Exc) : List Value := [.int .i64 x.f, .int .i64 x.t, .int .i64 x.n, .int .i64 x.d]
def amtB (n : Int) : Bool := decide (-1000000000 ≤ n) && decide (n ≤ 1000000000)
def curB (n : Int) : Bool := decide (1 ≤ n) && decide (n ≤ 9)
/-- whether n / d is a ratio, reduced -/
def ratB (n d : Int) : Bool := decide (1 ≤ d) && decide (d ≤ 1000000) && amtB n && decide (Nat.gcd n.natAbs d.toNat = 1)
def excB (x : Exc) : Bool := curB x.f && curB x.t && !decide (x.f = x.t) && ratB x.n x.d && decide (0 < x.n)
def keyX (x : Exc) : Int × Int := (x.f, x.t)
/-- well-formed exchanges -/
def tabB (l : List Exc) : Bool := l.all excB && decide ((l.map keyX).Nodup) && decide (l.length ≤ 30)
/-- the exchange from a currency to another one -/
def fndX : List Exc → Int → Int → Option Exc
  | [], _, _ => none
  | x :: r, a, b => if x.f = a ∧ x.t = b then some x else fndX r a b
theorem amtB_iff {n : Int} : amtB n = true ↔ -1000000000 ≤ n ∧ n ≤ 1000000000 := by simp [amtB]
theorem curB_iff {n : Int} : curB n = true ↔ 1 ≤ n ∧ n ≤ 9 := by simp [curB]
theorem fndX_mem : ∀ {l : List Exc} {a b : Int} {x : Exc}, fndX l a b = some x → x ∈ l ∧ x.f = a ∧ x.t = b
  | [], _, _, _, h => by cases h
  | y :: r, a, b, x, h => by
    rw [fndX] at h
    split at h
    · rename_i hy
      injection h with h
      subst h
      exact ⟨List.mem_cons_self, hy⟩
    · obtain ⟨h1, h2⟩ := fndX_mem h
      exact ⟨List.mem_cons_of_mem _ h1, h2⟩
theorem tab_mem {l : List Exc} {x : Exc} (h : tabB l = true) (hx : x ∈ l) : excB x = true := by
  simp only [tabB, Bool.and_eq_true, List.all_eq_true] at h
  exact h.1.1 x hx
theorem exc_d {x : Exc} (h : excB x = true) : (1 ≤ x.d ∧ x.d ≤ 1000000) ∧ -1000000000 ≤ x.n ∧ x.n ≤ 1000000000 := by
  simp only [excB, ratB, Bool.and_eq_true, amtB_iff, decide_eq_true_eq] at h
  omega
/-- the error of a conversion: exchanges, cents, currency, to -/
def cvE (l : List Exc) (m c t : Int) : Int :=
  if tabB l = true ∧ amtB m = true ∧ curB c = true ∧ curB t = true then
    if c = t then 0 else
    match fndX l c t with
    | none => 4
    | some x => if amtB (rdE (m * x.n) x.d) = true then 0 else 3
  else 1
def cvM (l : List Exc) (m c t : Int) : Int :=
  if cvE l m c t = 0 then if c = t then m else match fndX l c t with | none => 0 | some x => rdE (m * x.n) x.d else 0
def cvC (l : List Exc) (m c t : Int) : Int := if cvE l m c t = 0 then t else 0
theorem cv_ok {l : List Exc} {m c t : Int} (h : cvE l m c t = 0) : tabB l = true ∧ amtB m = true ∧ curB c = true ∧ curB t = true := by
  rw [cvE] at h
  split at h
  · assumption
  · omega
/-- what is converted is within half a cent of the exact value, a half is rounded to an even number -/
theorem near_law {l : List Exc} {m c t : Int} (h : cvE l m c t = 0) (hct : c ≠ t) : ∃ x, fndX l c t = some x ∧ (1 ≤ x.d ∧ x.d ≤ 1000000) ∧ (-1000000000 ≤ x.n ∧ x.n ≤ 1000000000) ∧ amtB (cvM l m c t) = true ∧ 2 * (cvM l m c t * x.d - m * x.n) ≤ x.d ∧ -x.d ≤ 2 * (cvM l m c t * x.d - m * x.n) ∧ ((2 * (cvM l m c t * x.d - m * x.n) = x.d ∨ 2 * (cvM l m c t * x.d - m * x.n) = -x.d) → cvM l m c t % 2 = 0) := by
  have h1 := cv_ok h
  have h2 := h
  rw [cvE, if_pos h1, if_neg hct] at h2
  cases hf : fndX l c t with
  | none => rw [hf] at h2; simp only at h2; omega
  | some x =>
    rw [hf] at h2
    simp only at h2
    have hx := exc_d (tab_mem h1.1 (fndX_mem hf).1)
    have e : cvM l m c t = rdE (m * x.n) x.d := by rw [cvM, if_pos h, if_neg hct, hf]
    rw [e]
    have ha : amtB (rdE (m * x.n) x.d) = true := by
      split at h2
      · assumption
      · omega
    exact ⟨x, rfl, hx.1, hx.2, ha, rdE_near (by omega)⟩
/-- the opposite amount is converted to the opposite -/
theorem neg_law {l : List Exc} {m c t : Int} (ha : amtB m = true) : cvE l (-m) c t = cvE l m c t ∧ (cvE l m c t = 0 → cvM l (-m) c t = - cvM l m c t) := by
  have hn : amtB (-m) = true := by rw [amtB_iff] at ha ⊢; omega
  have e : cvE l (-m) c t = cvE l m c t := by
    by_cases h : tabB l = true ∧ amtB m = true ∧ curB c = true ∧ curB t = true
    · rw [cvE, cvE, if_pos h, if_pos ⟨h.1, hn, h.2.2⟩]
      split
      · rfl
      · cases hf : fndX l c t with
        | none => rfl
        | some x =>
          have hx := exc_d (tab_mem h.1 (fndX_mem hf).1)
          simp only
          rw [Int.neg_mul, rdE_neg (by omega)]
          have : amtB (-rdE (m * x.n) x.d) = amtB (rdE (m * x.n) x.d) := by
            rw [Bool.eq_iff_iff, amtB_iff, amtB_iff]; omega
          rw [this]
    · rw [cvE, cvE, if_neg h, if_neg (fun h2 => h ⟨h2.1, ha, h2.2.2⟩)]
  refine ⟨e, fun h => ?_⟩
  rw [cvM, cvM, e, if_pos h, if_pos h]
  split
  · rfl
  · cases hf : fndX l c t with
    | none => rfl
    | some x =>
      have hx := exc_d (tab_mem (cv_ok h).1 (fndX_mem hf).1)
      simp only
      rw [Int.neg_mul, rdE_neg (by omega)]
/-- the greater amount is converted to no less -/
theorem more_law {l : List Exc} {m p c t : Int} (h : cvE l m c t = 0) (hp : m ≤ p) : (cvE l p c t = 0 ∧ cvM l m c t ≤ cvM l p c t) ∨ (cvE l p c t = 1 ∧ amtB p = false) ∨ cvE l p c t = 3 := by
  have h1 := cv_ok h
  cases hb : amtB p with
  | false => exact .inr (.inl ⟨by rw [cvE, if_neg (by rw [hb]; simp)], rfl⟩)
  | true =>
    by_cases hct : c = t
    · left
      have e : cvE l p c t = 0 := by rw [cvE, if_pos ⟨h1.1, hb, h1.2.2⟩, if_pos hct]
      refine ⟨e, ?_⟩
      rw [cvM, cvM, if_pos h, if_pos e, if_pos hct, if_pos hct]; exact hp
    · have h2 := h
      rw [cvE, if_pos h1, if_neg hct] at h2
      cases hf : fndX l c t with
      | none => rw [hf] at h2; simp only at h2; omega
      | some x =>
        have hx := exc_d (tab_mem h1.1 (fndX_mem hf).1)
        cases hr : amtB (rdE (p * x.n) x.d) with
        | false => right; right; rw [cvE, if_pos ⟨h1.1, hb, h1.2.2⟩, if_neg hct, hf]; simp only; rw [if_neg (by rw [hr]; simp)]
        | true =>
          left
          have e : cvE l p c t = 0 := by rw [cvE, if_pos ⟨h1.1, hb, h1.2.2⟩, if_neg hct, hf]; simp only; rw [if_pos hr]
          refine ⟨e, ?_⟩
          rw [cvM, cvM, if_pos h, if_pos e, if_neg hct, if_neg hct, hf]
          simp only
          have hn : 0 < x.n := by
            have := tab_mem h1.1 (fndX_mem hf).1
            simp only [excB, Bool.and_eq_true, decide_eq_true_eq] at this
            exact this.2
          exact rdE_mono (by omega) (Int.mul_le_mul_of_nonneg_right hp (by omega))
end Go.Proofs.YtaloadadecoogaaDoor
