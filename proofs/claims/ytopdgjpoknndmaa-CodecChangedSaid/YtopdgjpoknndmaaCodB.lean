/- Contracts of package codec: Put; and of the reference's one and Put. -/
import Derived.Test.YtopdgjpoknndmaaCodA
namespace Go.Proofs.Ytopdgjpoknndmaa
set_option linter.unusedSimpArgs false
set_option linter.unusedVariables false
set_option maxRecDepth 100000
open Go.RowKit

/-- the bytes of integers -/
def bodyB (l : List Int) : List Int := l.flatMap fun n => vb (zz n)
def putB (l : List Int) : List Int := vb (zz l.length) ++ bodyB l
theorem bodyB_take_succ (l : List Int) (k : Nat) (h : k < l.length) : bodyB (l.take (k + 1)) = bodyB (l.take k) ++ vb (zz (l.getD k 0)) := by
  rw [List.take_succ_eq_append_getElem h, bodyB, List.flatMap_append]; simp [bodyB, List.getD_eq_getElem?_getD, h]
theorem bodyB_len (l : List Int) (h : ∀ x ∈ l, -9223372036854775808 ≤ x ∧ x ≤ 9223372036854775807) : (bodyB l).length ≤ 10 * l.length := by
  induction l with
  | nil => simp [bodyB]
  | cons x r ih =>
    have h1 := vb_len (zz x) (zz_lt x (h x (by simp)).1 (h x (by simp)).2)
    have h2 := ih fun y hy => h y (by simp [hy])
    simp [bodyB] at h2 ⊢; omega
theorem int_bd {l : List Int} (h : ∀ x ∈ l, -9223372036854775808 ≤ x ∧ x ≤ 9223372036854775807) (k : Nat) : -9223372036854775808 ≤ l.getD k 0 ∧ l.getD k 0 ≤ 9223372036854775807 := by
  rcases Nat.lt_or_ge k l.length with hk | hk
  · have : l.getD k 0 = l[k] := by simp [List.getD_eq_getElem?_getD, hk]
    rw [this]; exact h _ (List.getElem_mem hk)
  · have : l.getD k 0 = 0 := by simp [List.getD_eq_getElem?_getD, List.getElem?_eq_none hk]
    rw [this]; omega

theorem codPut_no (A : Option Addr) (c n : Nat) (w : World) (h : 4000 < n) :
    Calls Try.prog 10 #[.slice A n c] w fun e w' => e = .returned (.tuple #[.slice none 0 0, .int .i64 2]) ∧ w = w' := by
  go_enter Try.func10, Try.ntmps10
  go_wp2_with fail
  go_ret2
  exact ⟨rfl, rfl⟩

set_option maxHeartbeats 1000000 in
theorem codPut_any (A : Option Addr) (c : Nat) (l : List Int) (w : World) (hl : IntsAt w A .i64 l) (hn : l.length ≤ 4000) (hb : ∀ x ∈ l, -9223372036854775808 ≤ x ∧ x ≤ 9223372036854775807) :
    Calls Try.prog 10 #[.slice A l.length c] w (OwnErr 5 .u8 (putB l) 0 w) := by
  have hv0 := vb_len (zz l.length) (zz_lt _ (by omega) (by omega))
  have hbl : ∀ k, (bodyB (l.take k)).length ≤ 10 * l.length := fun k => by
    have h1 := bodyB_len (l.take k) fun x hx => hb x (List.mem_of_mem_take hx)
    have h2 : (l.take k).length ≤ l.length := List.length_take_le' _ _
    omega
  generalize hN : l.length = N at *
  have H_hl := Lib.hid hl; clear hl; have H_hb := Lib.hid hb; clear hb; have H_hN := Lib.hid hN; clear hN; have H_hv0 := Lib.hid hv0; clear hv0; have H_hbl := Lib.hid hbl; clear hbl
  go_enter Try.func10, Try.ntmps10
  go_wp2_with fail
  refine (put_any w.heap.size none 0 [] N w (OwnInts.nil _ _ _ _) (by simp) (Nat.le_refl _) (by omega) (by omega)).mono ?_
  rintro e w1 ⟨B, d, rfl, ho, hg, hB⟩
  have hb1 : Below w.heap.size w w1 := below_of_grown_none hg
  rw [List.nil_append] at ho
  have H_ho := Lib.hid ho; clear ho; have H_hg := Lib.hid hg; clear hg; have H_hB := Lib.hid hB; clear hB; have H_hb1 := Lib.hid hb1; clear hb1
  go_wp2_with fail
  go_loopw [4, 15] (fun b i wr => ∃ (k : Nat) (B : Option Addr) (d : Nat), k ≤ N ∧ i = .int .i64 k ∧ b = .slice B (vb (zz N) ++ bodyB (l.take k)).length d ∧ OwnInts wr w.heap.size 5 .u8 B d (vb (zz N) ++ bodyB (l.take k)) ∧ Below w.heap.size w wr) (fun _ i _ => N - (intOf i).toNat)
  case atStart => exact ⟨0, B, d, by omega, rfl, by simp [bodyB], by simpa [bodyB] using H_ho.out, H_hb1.out⟩
  case round =>
    obtain ⟨k, B, d, hk, rfl, rfl, ho, hbw⟩ := hrel
    have hbk := H_hbl.out k
    by_cases hlt : k < N
    · obtain ⟨b, off, hA, hbs, hc⟩ := (H_hl.out.below hbw) k (by rw [H_hN.out]; exact hlt)
      have hbd := int_bd H_hb.out k
      have hsz := hbw.size
      have hsn := bodyB_take_succ l k (by rw [H_hN.out]; exact hlt)
      have hlen : (vb (zz N) ++ bodyB (l.take k)).length ≤ 1000000 := by have := H_hv0.out; simp; omega
      generalize hX : vb (zz N) ++ bodyB (l.take k) = X at *
      generalize l.getD k 0 = x at *
      subst hA
      have H_ho := Lib.hid ho; clear ho; have H_hbw := Lib.hid hbw; clear hbw; have H_hsn := Lib.hid hsn; clear hsn; have H_hbd := Lib.hid hbd; clear hbd; have H_hX := Lib.hid hX; clear hX; have H_hbk := Lib.hid hbk; clear hbk
      go_wp2_with fail
      refine (put_any w.heap.size B d X x wr H_ho.out hlen hsz H_hbd.out.1 H_hbd.out.2).mono ?_
      rintro e w2 ⟨B2, d2, rfl, ho2, hg2, hB2⟩
      have hbw2 := H_ho.out.grow H_hbw.out hg2
      have H_ho2 := Lib.hid ho2; clear ho2; have H_hg2 := Lib.hid hg2; clear hg2; have H_hB2 := Lib.hid hB2; clear hB2; have H_hbw2 := Lib.hid hbw2; clear hbw2
      go_wp2_with fail
      go_roundw
      case rel =>
        have e : vb (zz N) ++ bodyB (l.take (k + 1)) = X ++ vb (zz x) := by rw [H_hsn.out, ← List.append_assoc, H_hX.out]
        refine ⟨k + 1, B2, d2, by omega, by go_num, ?_, ?_, H_hbw2.out⟩
        · rw [e]; simp
        · rw [e]; exact H_ho2.out
      case measure => simp [intOf]; omega
    · have ht : l.take k = l := List.take_of_length_le (by rw [H_hN.out]; omega)
      rw [ht] at ho ⊢
      have H_ho := Lib.hid ho; clear ho; have H_hbw := Lib.hid hbw; clear hbw; have H_ht := Lib.hid ht; clear ht; have H_hbk := Lib.hid hbk; clear hbk
      go_wp2_with fail
      go_ret2
      refine ⟨B, d, ret_slice_err ?_, ?_, H_hbw.out⟩
      · rw [putB, H_hN.out]
      · rw [putB, H_hN.out]; exact H_ho.out
end Go.Proofs.Ytopdgjpoknndmaa
