/- Contracts: digest.Chain; the reference's Few. -/
import Derived.Test.YtmbmejclnagffaaDoorM10
import Derived.Test.YtmbmejclnagffaaDoorM27
set_option linter.unusedSimpArgs false
set_option linter.unusedVariables false
set_option maxRecDepth 100000
namespace Go.Proofs.YtmbmejclnagffaaDoor
open Go.RowKit
/-- lists of integers that an int holds, none longer than a million -/
def Fits (ll : List (List Int)) : Prop := ∀ l ∈ ll, l.length ≤ 100000 ∧ Fit l
theorem fits_at {ll : List (List Int)} (h : Fits ll) (k : Nat) : (ll.getD k []).length ≤ 100000 ∧ Fit (ll.getD k []) := by
  rcases Nat.lt_or_ge k ll.length with hk | hk
  · have : ll.getD k [] = ll[k] := by simp [List.getD_eq_getElem?_getD, hk]
    rw [this]; exact h _ (List.getElem_mem hk)
  · have : ll.getD k [] = [] := by simp [List.getD_eq_getElem?_getD, List.getElem?_eq_none hk]
    rw [this]; exact ⟨by simp, fun x hx => by simp at hx⟩
set_option maxHeartbeats 2000000 in
theorem digChain_any (A : Option Addr) (c : Nat) (ll : List (List Int)) (w : World) (hl : ListsAt w A ll) (hn : ll.length ≤ 1000000) (hb : Fits ll) (ht : Tab w) :
    Calls Tryd.prog 27 #[.slice A ll.length c] w fun e w' => e = .returned (.int .u64 (chainB ll)) ∧ Below w.heap.size w w' := by
  obtain ⟨i0, hi, hz0, hz1, hz2⟩ := info_parts infoI64
  generalize hN : ll.length = N at *
  have ⟨H_hl, H_hb, H_hN, H_ht⟩ := hid4 hl hb hN ht; clear hl hb hN ht
  go_enter Tryd.func27, Tryd.ntmps27
  go_wp2_with fail
  go_loopw [3, 8] (fun d i wr => ∃ k : Nat, k ≤ N ∧ i = .int .i64 k ∧ d = .int .u64 (chainB (ll.take k)) ∧ Below w.heap.size w wr) (fun _ i _ => N - (intOf i).toNat)
  case atStart => exact ⟨0, by omega, rfl, rfl, Below.refl _ _⟩
  case round =>
    obtain ⟨k, hk, rfl, rfl, hbw⟩ := hrel
    by_cases hlt : k < N
    · obtain ⟨b, off, Ai, ci, hA, hbs, hc, hcap, hin⟩ := (H_hl.out.below hbw) k (by rw [H_hN.out]; exact hlt)
      have hsn := chainB_snoc ll k (by rw [H_hN.out]; exact hlt)
      have hfi := fits_at H_hb.out k
      have hci := chainB_in (ll.take k)
      have htb := H_ht.out.below hbw
      have hsz := hbw.size
      have i1 : (0 : Int) ≤ (k : Int) := by omega
      have i2 : (k : Int) < (N : Int) := by omega
      generalize ll.getD k [] = x at *
      generalize chainB (ll.take k) = D at *
      have hx1 := hfi.1
      generalize hX : x.length = X at *
      subst hA
      have ⟨H_hbw, H_hsn, H_hfi, H_hci, H_htb, H_hin, H_hcap, H_hX⟩ := hid8 hbw hsn hfi hci htb hin hcap hX; clear hbw hsn hfi hci htb hin hcap hX
      go_wp2_with (at_builtin; refine wp_app_at _ rfl (.tmp 15) (.tmp 16) _ rfl w.heap.size 3 i0 _ 8 Tryd.underlying45 hi hz0 hz1 hz2 rfl .i64 (some ⟨wr.heap.size, 0, none⟩) 1 1 [(X : Int)] rfl rfl (own_lit [(X : Int)] hsz (by simp) _ rfl) Ai ci X x H_hX.out rfl (H_hin.out.alloc _) ?_ ?_ ?_ ?_)
      · omega
      · omega
      · simp; omega
      intro A2 c2 w2 ho2 hg2 hB2
      have hb2 : Below w.heap.size w w2 := (own_lit (k := .i64) [(X : Int)] hsz (by simp) _ rfl).grow (H_hbw.out.alloc hsz _) hg2
      have hcall := digNext_at D A2 c2 (1 + X) ((X : Int) :: x) (by simp [H_hX.out]; omega) w2 H_hci.out ho2.ints (by omega) (fit_cons (by omega) H_hfi.out.2) (H_ht.out.below hb2)
      have hs2 := hb2.size
      have ⟨H_ho2, H_hg2, H_hB2, H_hb2, H_hcall⟩ := hid5 ho2 hg2 hB2 hb2 hcall; clear ho2 hg2 hB2 hb2 hcall
      go_wp2_with fail
      refine H_hcall.out.mono ?_
      rintro e w3 ⟨rfl, hb3⟩
      have hb4 := H_hb2.out.trans (hb3.mono hs2)
      have ⟨H_hb3, H_hb4⟩ := hid2 hb3 hb4; clear hb3 hb4
      go_wp2_with fail
      go_roundw
      case rel => exact ⟨k + 1, by omega, by go_num, by rw [H_hsn.out], H_hb4.out⟩
      case measure => simp [intOf]; omega
    · have hall : ll.take k = ll := List.take_of_length_le (by rw [H_hN.out]; omega)
      rw [hall]
      have i2 : ¬ (k : Int) < (N : Int) := by omega
      have ⟨H_hbw, H_hall⟩ := hid2 hbw hall; clear hbw hall
      go_wp2_with fail
      go_ret
      exact ⟨rfl, H_hbw.out⟩
end Go.Proofs.YtmbmejclnagffaaDoor
