/- The plain laws of package codec: what is written is read, and what is read was written (no walk in sight). -/
import Derived.Test.YtopdgjpoknndmaaCodM
namespace Go.Proofs.Ytopdgjpoknndmaa
set_option linter.unusedSimpArgs false
set_option linter.unusedVariables false
set_option maxRecDepth 100000
open Go.RowKit

/-- integers that fit -/
def Fit (l : List Int) : Prop := ∀ x ∈ l, -9223372036854775808 ≤ x ∧ x ≤ 9223372036854775807
theorem Fit.tail {x : Int} {r : List Int} (h : Fit (x :: r)) : Fit r := fun y hy => h y (by simp [hy])

theorem getL_body (l rest : List Int) (h : Fit l) : getL l.length (bodyB l ++ rest) = if rest = [] then some l else none := by
  induction l with
  | nil => simp [bodyB, getL]
  | cons x r ih =>
    have hx := h x (by simp)
    have e : bodyB (x :: r) ++ rest = vb (zz x) ++ (bodyB r ++ rest) := by simp [bodyB]
    rw [e, List.length_cons, getL, rd_put _ _ (zz_lt x hx.1 hx.2)]
    dsimp only
    rw [List.drop_left, ih h.tail, uz_zz]
    split <;> simp
theorem getB_put_rest (l rest : List Int) (hn : l.length ≤ 4000) (h : Fit l) : getB (putB l ++ rest) = if rest = [] then some l else none := by
  have e : putB l ++ rest = vb (zz l.length) ++ (bodyB l ++ rest) := by simp [putB]
  rw [getB, e, rd_put _ _ (zz_lt _ (by omega) (by omega))]
  dsimp only
  rw [uz_zz, if_neg (by omega), List.drop_left, Int.toNat_natCast, getL_body l rest h]
theorem getB_put (l : List Int) (hn : l.length ≤ 4000) (h : Fit l) : getB (putB l) = some l := by
  have := getB_put_rest l [] hn h
  simpa using this
theorem getB_more (l rest : List Int) (hn : l.length ≤ 4000) (h : Fit l) (hr : rest ≠ []) : getB (putB l ++ rest) = none := by
  rw [getB_put_rest l rest hn h, if_neg hr]

theorem getL_back : ∀ (k : Nat) (b l : List Int), (∀ x ∈ b, 0 ≤ x ∧ x ≤ 255) → getL k b = some l → l.length = k ∧ b = bodyB l ∧ Fit l
  | 0, b, l, _, h => by
    rw [getL] at h
    by_cases hb : b = []
    · rw [if_pos hb] at h; injection h with h; subst h; exact ⟨rfl, by rw [hb]; rfl, fun x hx => by simp at hx⟩
    · rw [if_neg hb] at h; cases h
  | k + 1, b, l, hb, h => by
    rw [getL] at h
    cases hr : rd 0 0 b with
    | none => rw [hr] at h; cases h
    | some un =>
      obtain ⟨u, n⟩ := un
      rw [hr] at h
      dsimp only at h
      rw [Option.map_eq_some_iff] at h
      obtain ⟨m, hm, rfl⟩ := h
      obtain ⟨h1, h2, h3⟩ := rd_put_back b u n hb hr
      obtain ⟨g1, g2, g3⟩ := getL_back k (b.drop n) m (fun x hx => hb x (List.mem_of_mem_drop hx)) hm
      refine ⟨by simp [g1], ?_, fun x hx => ?_⟩
      · rw [h3, g2]; simp [bodyB, zz_uz]
      · rcases List.mem_cons.1 hx with rfl | hx
        · exact uz_bd u h1
        · exact g3 x hx
theorem getB_back (b l : List Int) (hb : ∀ x ∈ b, 0 ≤ x ∧ x ≤ 255) (h : getB b = some l) : putB l = b ∧ l.length ≤ 4000 ∧ Fit l := by
  rw [getB] at h
  cases hr : rd 0 0 b with
  | none => rw [hr] at h; cases h
  | some un =>
    obtain ⟨u, n⟩ := un
    rw [hr] at h
    dsimp only at h
    by_cases hu : uz u < 0 ∨ uz u > 4000
    · rw [if_pos hu] at h; cases h
    · rw [if_neg hu] at h
      obtain ⟨h1, h2, h3⟩ := rd_put_back b u n hb hr
      obtain ⟨g1, g2, g3⟩ := getL_back _ (b.drop n) l (fun x hx => hb x (List.mem_of_mem_drop hx)) h
      have e : (l.length : Int) = uz u := by omega
      refine ⟨?_, by omega, g3⟩
      rw [putB, e, zz_uz, ← g2, ← h3]
theorem getB_less (l : List Int) (j : Nat) (hn : l.length ≤ 4000) (h : Fit l) (hj : j < (putB l).length) : getB ((putB l).take j) = none := by
  cases hg : getB ((putB l).take j) with
  | none => rfl
  | some m =>
    exfalso
    obtain ⟨h1, h2, h3⟩ := getB_back _ m (fun x hx => putB_bytes l x (List.mem_of_mem_take hx)) hg
    have e : putB l = putB m ++ (putB l).drop j := by rw [h1, List.take_append_drop]
    have := getB_more m ((putB l).drop j) h2 h3 (by intro h0; have := congrArg List.length h0; simp at this; omega)
    rw [← e, getB_put l hn h] at this
    cases this

theorem putB_fit {l : List Int} (hn : l.length ≤ 4000) (h : Fit l) : (putB l).length ≤ 40010 := putB_len l hn h
theorem lenB_hd (n : Nat) (rest : List Int) (h : n < 16777216) : lenB (hdB n ++ rest) = n := by
  simp [lenB, hdB]; omega
theorem frameB_len (l : List Int) : (frameB l).length = (putB l).length + 11 := by simp [frameB, hdB, be8]
theorem whole_frame (l rest : List Int) (hn : l.length ≤ 4000) (h : Fit l) : wholeB (frameB l ++ rest) = some (l, (frameB l).length) := by
  have hp := putB_fit hn h
  have hfl := frameB_len l
  generalize hN : (putB l).length = N at *
  have e : frameB l ++ rest = hdB N ++ (putB l ++ (be8 (sumB 14695981039346656037 (hdB N ++ putB l)) ++ rest)) := by simp [frameB, hN]
  have hl : lenB (frameB l ++ rest) = N := by rw [e]; exact lenB_hd N _ (by omega)
  have hh : (hdB N ++ putB l).length = 3 + N := by simp [hdB, hN]; omega
  have ht : (frameB l ++ rest).take (3 + N) = hdB N ++ putB l := by
    rw [e, ← List.append_assoc, ← hh, List.take_left]
  have hd : ((frameB l ++ rest).drop (3 + N)).take 8 = be8 (sumB 14695981039346656037 (hdB N ++ putB l)) := by
    rw [e, ← List.append_assoc, ← hh, List.drop_left]
    exact List.take_left' (by simp [be8])
  rw [wholeB, if_neg (by simp; omega), hl, if_neg (by simp; omega), ht, hd, if_neg (by simp)]
  have h3 : (hdB N ++ putB l).drop 3 = putB l := rfl
  rw [h3, getB_put l hn h, hfl]
  rfl

/-- the frames of lists, one after the other -/
def allB (ll : List (List Int)) : List Int := ll.flatMap frameB
theorem frames_behind (ll : List (List Int)) (rest : List Int) (h : ∀ l ∈ ll, l.length ≤ 4000 ∧ Fit l) :
    framesB (allB ll ++ rest) = (ll ++ (framesB rest).1, (allB ll).length + (framesB rest).2) := by
  induction ll with
  | nil => simp [allB]
  | cons l r ih =>
    have hl := h l (by simp)
    have ih' := ih fun x hx => h x (by simp [hx])
    have e : allB (l :: r) ++ rest = frameB l ++ (allB r ++ rest) := by simp [allB]
    rw [e, framesB, frB, whole_frame l _ hl.1 hl.2]
    dsimp only
    rw [List.drop_left]
    have ef : frB (frameB l ++ (allB r ++ rest)).length (allB r ++ rest) = framesB (allB r ++ rest) := frB_fuel _ _ _ (by have := frameB_len l; simp; omega) (by simp)
    rw [ef, ih']
    simp [allB]; omega
end Go.Proofs.Ytopdgjpoknndmaa
