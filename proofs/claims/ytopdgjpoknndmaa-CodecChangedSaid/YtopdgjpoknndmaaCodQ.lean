/- Plain law: a frame with one changed byte behind its first three is no whole frame. -/
import Derived.Test.YtopdgjpoknndmaaCodL5
import Derived.Test.YtopdgjpoknndmaaDigP
namespace Go.Proofs.Ytopdgjpoknndmaa
set_option linter.unusedSimpArgs false
set_option linter.unusedVariables false
set_option maxRecDepth 100000
open Go.RowKit

theorem be8_inj {d e : Int} (h1 : 0 ≤ d ∧ d ≤ 18446744073709551615) (h2 : 0 ≤ e ∧ e ≤ 18446744073709551615) (h : be8 d = be8 e) : d = e := by
  rw [be8_eq, be8_eq] at h
  simp only [b8, List.cons.injEq, and_true] at h
  obtain ⟨a0, a1, a2, a3, a4, a5, a6, a7⟩ := h
  simp at a0 a1 a2 a3 a4 a5 a6 a7
  omega
theorem set_ne {l : List Int} {p : Nat} {y : Int} (hp : p < l.length) (hne : y ≠ l.getD p 0) : l.set p y ≠ l := fun h => by
  have h2 : (l.set p y).getD p 0 = l.getD p 0 := by rw [h]
  simp [List.getD_eq_getElem?_getD, hp] at h2 hne
  exact hne h2
theorem whole_changed (l : List Int) (p : Nat) (y : Int) (hn : l.length ≤ 4000) (h : Fit l) (h3 : 3 ≤ p) (hp : p < (frameB l).length) (hy : 0 ≤ y ∧ y ≤ 255) (hne : y ≠ (frameB l).getD p 0) : wholeB ((frameB l).set p y) = none := by
  have hfl := frameB_len l
  have hpf := putB_fit hn h
  have hpb := putB_bytes l
  generalize hN : (putB l).length = N at *
  generalize hX : putB l = X at *
  have hF : frameB l = (hdB N ++ X) ++ be8 (sumB 14695981039346656037 (hdB N ++ X)) := by rw [frameB, hX, hN]
  have hHl : (hdB N ++ X).length = 3 + N := by simp [hdB, hN]; omega
  have hHb : ∀ x ∈ hdB N ++ X, 0 ≤ x ∧ x ≤ 255 := fun x hx => by
    rcases List.mem_append.1 hx with h | h
    · exact hdB_bytes N (by omega) x h
    · exact hpb x h
  have hin := sumB_in 14695981039346656037 (by omega) (hdB N ++ X)
  have hlen : ((frameB l).set p y).length = N + 11 := by rw [List.length_set, hfl]
  have hl : lenB ((frameB l).set p y) = N := by
    have e : (frameB l).set p y = hdB N ++ ((frameB l).set p y).drop 3 := by
      have e2 : ((frameB l).set p y).take 3 = hdB N := by
        rw [List.take_set_of_le h3, hF]; rfl
      rw [← e2, List.take_append_drop]
    rw [e]; exact lenB_hd N _ (by omega)
  rw [wholeB, hlen, if_neg (by omega), hl, if_neg (by omega), if_pos]
  by_cases hc : p < 3 + N
  · have e : (frameB l).set p y = (hdB N ++ X).set p y ++ be8 (sumB 14695981039346656037 (hdB N ++ X)) := by rw [hF, List.set_append_left _ _ (by omega)]
    have hsl : ((hdB N ++ X).set p y).length = 3 + N := by rw [List.length_set, hHl]
    have e1 : ((frameB l).set p y).drop (3 + N) = be8 (sumB 14695981039346656037 (hdB N ++ X)) := by rw [e, ← hsl, List.drop_left]
    have e2 : ((frameB l).set p y).take (3 + N) = (hdB N ++ X).set p y := by rw [e, ← hsl, List.take_left]
    rw [e1, e2, List.take_of_length_le (by simp [be8])]
    intro hb
    have hg : (hdB N ++ X).getD p 0 = (frameB l).getD p 0 := by rw [hF]; simp only [List.getD_eq_getElem?_getD]; rw [List.getElem?_append_left (show p < (hdB N ++ X).length by omega)]
    exact sumB_one hHb (by omega) (by omega) hy (by rw [hg]; exact hne) (be8_inj hin (sumB_in _ (by omega) _) hb).symm
  · have e : (frameB l).set p y = (hdB N ++ X) ++ (be8 (sumB 14695981039346656037 (hdB N ++ X))).set (p - (3 + N)) y := by rw [hF, List.set_append_right _ _ (by omega), hHl]
    have e1 : ((frameB l).set p y).drop (3 + N) = (be8 (sumB 14695981039346656037 (hdB N ++ X))).set (p - (3 + N)) y := by rw [e, ← hHl, List.drop_left]
    have e2 : ((frameB l).set p y).take (3 + N) = hdB N ++ X := by rw [e, ← hHl, List.take_left]
    rw [e1, e2, List.take_of_length_le (by simp [be8])]
    refine set_ne (by simp [be8]; omega) ?_
    have hg : (be8 (sumB 14695981039346656037 (hdB N ++ X))).getD (p - (3 + N)) 0 = (frameB l).getD p 0 := by rw [hF]; simp only [List.getD_eq_getElem?_getD]; rw [List.getElem?_append_right (by omega), hHl]
    rw [hg]; exact hne
/-- what is read of frames of which the last one is changed -/
theorem frames_changed (ll : List (List Int)) (p : Nat) (y : Int) (h0 : ll ≠ []) (h : ∀ l ∈ ll, l.length ≤ 30 ∧ Fit l) (h3 : (allB (ll.take (ll.length - 1))).length + 3 ≤ p) (hp : p < (allB ll).length) (hy : 0 ≤ y ∧ y ≤ 255) (hne : y ≠ (allB ll).getD p 0) :
    framesB ((allB ll).set p y) = (ll.take (ll.length - 1), (allB (ll.take (ll.length - 1))).length) := by
  obtain ⟨r, l, rfl⟩ : ∃ r l, ll = r ++ [l] := ⟨ll.dropLast, ll.getLast h0, (List.dropLast_concat_getLast h0).symm⟩
  have ht : (r ++ [l]).take ((r ++ [l]).length - 1) = r := by simp
  have ha : allB (r ++ [l]) = allB r ++ frameB l := by simp [allB]
  rw [ht] at h3 ⊢
  rw [ha] at hp hne ⊢
  have hl := h l (by simp)
  rw [List.length_append] at hp
  rw [List.set_append_right _ _ (by omega)]
  have hg : (allB r ++ frameB l).getD p 0 = (frameB l).getD (p - (allB r).length) 0 := by simp only [List.getD_eq_getElem?_getD]; rw [List.getElem?_append_right (by omega)]
  rw [frames_behind r _ (fun x hx => ⟨by have := (h x (by simp [hx])).1; omega, (h x (by simp [hx])).2⟩), frB_none (whole_changed l _ y (by omega) hl.2 (by omega) (by omega) hy (by rw [← hg]; exact hne))]
  simp
end Go.Proofs.Ytopdgjpoknndmaa
