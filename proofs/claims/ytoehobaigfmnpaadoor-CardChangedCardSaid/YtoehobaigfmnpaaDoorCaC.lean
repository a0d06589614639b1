/- Contracts of package card: wrong, message, ContainsFunc. -/
import Derived.Test.YtoehobaigfmnpaaDoorCaB
namespace Go.Proofs.YtoehobaigfmnpaaDoor
set_option linter.unusedSimpArgs false
set_option linter.unusedVariables false
set_option maxRecDepth 100000
open Go.RowKit Go.Maps

theorem cwrong_any (c : Crd) (hc : CFit c) (w : World) : Calls Tryd.prog 36 #[.agg c.cells.toArray] w fun e w' => e = .returned (.bool (!cvB c)) ∧ Below w.heap.size w w' := by
  have b1 : Below w.heap.size w (w.alloc (.cells c.cells.toArray 31)) := (Below.refl _ _).alloc (Nat.le_refl _) _
  have q := cvalid_any c hc (w.alloc (.cells c.cells.toArray 31))
  generalize cvB c = R at *
  unfold Crd.cells at q b1 ⊢
  have H_q := Lib.hid q; clear q; have H_b1 := Lib.hid b1; clear b1; have H_hc := Lib.hid hc; clear hc
  go_enter Tryd.func36, Tryd.ntmps36
  go_wp2_with fail
  refine H_q.out.mono ?_
  rintro e w2 ⟨rfl, b2⟩
  have bb := H_b1.out.trans (b2.mono (by simp))
  have H_b2 := Lib.hid b2; clear b2; have H_bb := Lib.hid bb; clear bb
  go_wp2_with fail
  go_ret
  exact ⟨rfl, H_bb.out⟩

/-- the seven numbers that are signed -/
def Crd.msg (c : Crd) : List Int := [c.i, c.k, c.d, c.n, c.f, c.u, c.l]
theorem CFit.msg {c : Crd} (h : CFit c) : Fit c.msg := by
  intro x hx
  simp only [Crd.msg, List.mem_cons, List.not_mem_nil, or_false] at hx
  rcases hx with rfl | rfl | rfl | rfl | rfl | rfl | rfl
  · exact h.i
  · exact h.k
  · exact h.d
  · exact h.n
  · exact h.f
  · exact h.u
  · exact h.l
def NewInts7 (l : List Int) (w : World) (e : Ending) (w' : World) : Prop := ∃ b, e = .returned (.slice (some ⟨b, 0, none⟩) 7 7) ∧ IntsAt w' (some ⟨b, 0, none⟩) .i64 l ∧ w.heap.size ≤ b ∧ Below w.heap.size w w'
set_option maxHeartbeats 1000000 in
theorem cmessage_any (c : Crd) (w : World) : Calls Tryd.prog 40 #[.agg c.cells.toArray] w (NewInts7 c.msg w) := by
  unfold Crd.cells Crd.msg
  go_enter Tryd.func40, Tryd.ntmps40
  go_wp2_with fail
  go_ret
  refine ⟨w.heap.size + 1, rfl, ?_, by omega, ((Below.refl _ _).alloc (Nat.le_refl _) _).alloc (by simp) _⟩
  exact ints_lit (w := w.alloc _) (E := 3) [c.i, c.k, c.d, c.n, c.f, c.u, c.l] _ (by simp)

/-- a card in its nine cells -/
def CdAt (_ : World) (cs : List Value) (c : Crd) : Prop := cs = c.cells ∧ CFit c
/-- a slice of cards -/
def Cards (w : World) (A : Option Addr) (l : List Crd) : Prop := RowsAt 9 CdAt w A l
theorem Cards.below {w w' : World} {A : Option Addr} {l : List Crd} (h : Cards w A l) (hb : Below w.heap.size w w') : Cards w' A l := RowsAt.below h (fun _ _ h => h) hb
theorem Cards.fit {w : World} {A : Option Addr} {l : List Crd} (h : Cards w A l) : ∀ c ∈ l, CFit c := fun c hc => by
  obtain ⟨i, hi, rfl⟩ := List.getElem_of_mem hc
  obtain ⟨_, _, _, _, _, _, _, h2⟩ := h i _ (List.getElem?_eq_getElem hi)
  exact h2.2
/-- the nine cells of one -/
theorem Cards.at {w : World} {A : Option Addr} {l : List Crd} (h : Cards w A l) {i : Nat} {c : Crd} (hi : l[i]? = some c) : ∃ b off, A = some ⟨b, off, none⟩ ∧ b < w.heap.size ∧ CFit c ∧
    w.cell? ⟨b, off + i * 9, none⟩ = some (.int .i64 c.i) ∧ w.cell? ⟨b, off + i * 9 + 1, none⟩ = some (.int .i64 c.k) ∧ w.cell? ⟨b, off + i * 9 + 2, none⟩ = some (.int .i64 c.d) ∧ w.cell? ⟨b, off + i * 9 + 3, none⟩ = some (.int .i64 c.n) ∧ w.cell? ⟨b, off + i * 9 + 4, none⟩ = some (.int .i64 c.f) ∧
    w.cell? ⟨b, off + i * 9 + 5, none⟩ = some (.int .i64 c.u) ∧ w.cell? ⟨b, off + i * 9 + 6, none⟩ = some (.int .i64 c.l) ∧ w.cell? ⟨b, off + i * 9 + 7, none⟩ = some (.int .i64 c.e) ∧ w.cell? ⟨b, off + i * 9 + 8, none⟩ = some (.int .i64 c.s) := by
  obtain ⟨b, off, cs, e, hlt, hl, hc, rfl, hf⟩ := h i c hi
  refine ⟨b, off, e, hlt, hf, ?_, ?_, ?_, ?_, ?_, ?_, ?_, ?_, ?_⟩
  · exact hc 0 (by omega)
  all_goals (rw [Nat.add_assoc])
  · exact hc 1 (by omega)
  · exact hc 2 (by omega)
  · exact hc 3 (by omega)
  · exact hc 4 (by omega)
  · exact hc 5 (by omega)
  · exact hc 6 (by omega)
  · exact hc 7 (by omega)
  · exact hc 8 (by omega)

/-- the first card that is not well-formed, from k on -/
theorem allV_drop {l : List Crd} {k : Nat} {c : Crd} (h : l[k]? = some c) : allV (l.drop k) = (cvB c && allV (l.drop (k + 1))) := by
  have hk : k < l.length := by
    rcases Nat.lt_or_ge k l.length with h1 | h1
    · exact h1
    · rw [List.getElem?_eq_none h1] at h; cases h
  rw [List.drop_eq_getElem_cons hk, allV, List.all_cons]
  have : l[k] = c := by rw [List.getElem?_eq_getElem hk] at h; exact Option.some.inj h
  rw [this]; rfl
/-- the index that is found -/
def IdxPost (ok : Bool) (w : World) (e : Ending) (w' : World) : Prop := ∃ i : Int, e = .returned (.int .i64 i) ∧ (decide (0 ≤ i)) = !ok ∧ -1 ≤ i ∧ i ≤ 9223372036854775807 ∧ Below w.heap.size w w'
set_option maxHeartbeats 2000000 in
theorem cindex_any (A : Option Addr) (cp n : Nat) (l : List Crd) (hln : l.length = n) (hn : n ≤ 9223372036854775807) (w : World) (hl : Cards w A l) :
    Calls Tryd.prog 63 #[.slice A n cp, .func (.func 36) #[] #[]] w (IdxPost (allV l) w) := by
  generalize hR : allV l = R
  have h0 : R = allV (l.drop 0) := by rw [List.drop_zero]; exact hR.symm
  have H_hl := Lib.hid hl; clear hl; have H_hln := Lib.hid hln; clear hln; have H_hR := Lib.hid hR; clear hR; have H_h0 := Lib.hid h0; clear h0
  go_enter Tryd.func63, Tryd.ntmps63
  go_wp2_with fail
  go_loopw [8] (fun i wr => ∃ (k : Nat), k ≤ n ∧ i = .int .i64 k ∧ R = allV (l.drop k) ∧ Below w.heap.size w wr) (fun i _ => n - (intOf i).toNat)
  case atStart => exact ⟨0, by omega, rfl, H_h0.out, Below.refl _ _⟩
  case round =>
    obtain ⟨k, hk, rfl, hRk, hb⟩ := hrel
    by_cases hlt : k < n
    · obtain ⟨c, hc⟩ : ∃ c, l[k]? = some c := ⟨_, List.getElem?_eq_getElem (by rw [H_hln.out]; exact hlt)⟩
      obtain ⟨b, off, rfl, hbl, hf, c0, c1, c2, c3, c4, c5, c6, c7, c8⟩ := (H_hl.out.below hb).at hc
      rw [allV_drop hc] at hRk
      have q := cwrong_any c hf wr
      unfold Crd.cells at q
      generalize cvB c = X at *
      have g1 : (k : Int) < (n : Int) := by omega
      have g0 : (0 : Int) ≤ (k : Int) := by omega
      have H_q := Lib.hid q; clear q; have H_hRk := Lib.hid hRk; clear hRk; have H_hf := Lib.hid hf; clear hf; have H_hc := Lib.hid hc; clear hc; have H_hb := Lib.hid hb; clear hb
      go_wp2_with fail
      refine H_q.out.mono ?_
      rintro e w2 ⟨rfl, b2⟩
      have bb := H_hb.out.trans (b2.mono H_hb.out.size)
      clear c0 c1 c2 c3 c4 c5 c6 c7 c8
      have H_b2 := Lib.hid b2; clear b2; have H_bb := Lib.hid bb; clear bb
      cases X with
      | true =>
        go_wp2_with fail
        go_roundw
        case rel => exact ⟨k + 1, by omega, by go_num, by rw [H_hRk.out, Bool.true_and], H_bb.out⟩
        case measure => simp [intOf]; omega
      | false =>
        go_wp2_with fail
        go_ret
        exact ⟨k, rfl, by rw [H_hRk.out]; simp, by omega, by omega, H_bb.out⟩
    · have : l.drop k = [] := List.drop_eq_nil_of_le (by rw [H_hln.out]; omega)
      rw [this] at hRk
      have H_hRk := Lib.hid hRk; clear hRk; have H_hb := Lib.hid hb; clear hb; have H_this := Lib.hid this; clear this
      go_wp2_with fail
      go_ret
      exact ⟨-1, rfl, by rw [H_hRk.out]; rfl, by omega, by omega, H_hb.out⟩
theorem ccontains_any (A : Option Addr) (cp n : Nat) (l : List Crd) (hln : l.length = n) (hn : n ≤ 9223372036854775807) (w : World) (hl : Cards w A l) :
    Calls Tryd.prog 35 #[.slice A n cp, .func (.func 36) #[] #[]] w fun e w' => e = .returned (.bool (!allV l)) ∧ Below w.heap.size w w' := by
  have q := cindex_any A cp n l hln hn w hl
  generalize allV l = R at *
  unfold IdxPost at q
  have H_q := Lib.hid q; clear q; have H_hl := Lib.hid hl; clear hl; have H_hln := Lib.hid hln; clear hln
  go_enter Tryd.func35, Tryd.ntmps35
  go_wp2_with fail
  refine H_q.out.mono ?_
  rintro e w2 ⟨i, rfl, hi, i0, i1, b2⟩
  have H_b2 := Lib.hid b2; clear b2
  cases R with
  | true =>
    have hi2 : ¬ (0 ≤ i) := by simpa using hi
    go_wp2_with fail
    go_ret
    exact ⟨ret_bool (by simp), H_b2.out⟩
  | false =>
    have hi2 : 0 ≤ i := by simpa using hi
    go_wp2_with fail
    go_ret
    exact ⟨ret_bool (by simp), H_b2.out⟩
end Go.Proofs.YtoehobaigfmnpaaDoor
