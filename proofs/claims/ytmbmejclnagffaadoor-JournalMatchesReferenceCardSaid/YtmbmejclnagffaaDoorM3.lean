/- Contracts of package digest: run, its two closures, Sum. -/
import Derived.Test.YtmbmejclnagffaaDoorM1
set_option linter.unusedSimpArgs false
set_option linter.unusedVariables false
set_option maxRecDepth 100000
namespace Go.Proofs.YtmbmejclnagffaaDoor
open Go.RowKit
/-- one step of the digest -/
def stepB (d b : Int) : Int := IntKind.u64.wrap (bits .xor .u64 d b * 1099511628211)
def sumB (d : Int) (l : List Int) : Int := l.foldl stepB d
theorem sumB_take_succ (d : Int) (l : List Int) (k : Nat) (h : k < l.length) : sumB d (l.take (k + 1)) = stepB (sumB d (l.take k)) (l.getD k 0) := by
  rw [List.take_succ_eq_append_getElem h, sumB, List.foldl_append]; simp [sumB, List.getD_eq_getElem?_getD, h]
set_option maxHeartbeats 1000000 in
theorem add_any (g : Nat) (A : Option Addr) (c : Nat) (l : List Int) (d : Int) (w : World) (hl : IntsAt w A .u8 l) (hn : l.length ≤ 9223372036854775807) (hb : ∀ i, 0 ≤ l.getD i 0 ∧ l.getD i 0 ≤ 255)
    (hg : w.heap[g]? = some (.cells #[.int .u64 d] 29)) :
    Calls Tryd.prog 77 #[.slice A l.length c, .pointer (some ⟨g, 0, none⟩)] w fun e w' => e = .returned (.tuple #[]) ∧ w.grownBy w' (some g) ∧ w'.heap[g]? = some (.cells #[.int .u64 (sumB d l)] 29) := by
  generalize hN : l.length = N at *
  have ⟨H_hl, H_hg, H_hb, H_hN⟩ := hid4 hl hg hb hN; clear hl hg hb hN
  go_enter Tryd.func77, Tryd.ntmps77
  go_wp2
  go_loopw [7] (fun i wr => ∃ k : Nat, k ≤ N ∧ i = .int .i64 k ∧ w.grownBy wr (some g) ∧ wr.heap[g]? = some (.cells #[.int .u64 (sumB d (l.take k))] 29)) (fun i _ => N - (intOf i).toNat)
  case atStart => exact ⟨0, by omega, rfl, grown_refl _ _, H_hg.out⟩
  case round =>
    obtain ⟨k, hk, rfl, hgr, hh⟩ := hrel
    by_cases hlt : k < N
    · obtain ⟨b, off, hA, hbs, hc⟩ := H_hl.out k (by rw [H_hN.out]; exact hlt)
      have hB := H_hb.out k
      have hB1 := hB.1
      have hB2 := hB.2
      have hne : b ≠ g := by
        rintro rfl
        have := cell_of_row w b (off + k) _ _ _ H_hg.out
        rw [hc] at this
        match off + k, this with
        | 0, h => simp at h
      have hc2 : wr.cell? ⟨b, off + k, none⟩ = some (.int .u8 (l.getD k 0)) := hgr.cell (a := ⟨b, off + k, none⟩) hc (by simpa using hne)
      have hs := sumB_take_succ d l k (by rw [H_hN.out]; exact hlt)
      have hd := cell_of_one hh
      have hf := free_of_one hh
      subst hA
      have ⟨H_hgr, H_hh, H_hs, H_hc, H_hB, H_hne⟩ := hid6 hgr hh hs hc hB hne; clear hgr hh hs hc hB hne
      generalize l.getD k 0 = x at *
      generalize sumB d (l.take k) = D at *
      go_wp2
      go_roundw
      case rel =>
        refine ⟨k + 1, by omega, by go_num, grown_set H_hgr.out _ _, ?_⟩
        rw [H_hs.out]
        exact one_setCell H_hh.out
      case measure => simp [intOf]; omega
    · go_wp2
      go_end0
      have : l.take k = l := List.take_of_length_le (by rw [H_hN.out]; omega)
      rw [this] at hh
      exact ⟨rfl, hgr, hh⟩
theorem tell_any (g : Nat) (d : Int) (w : World) (hg : w.cell? ⟨g, 0, none⟩ = some (.int .u64 d)) :
    Calls Tryd.prog 78 #[.pointer (some ⟨g, 0, none⟩)] w fun e w' => e = .returned (.int .u64 d) ∧ w = w' := by
  go_enter Tryd.func78, Tryd.ntmps78
  go_wp2
  go_ret
  exact ⟨rfl, rfl⟩
theorem run_any (w : World) :
    Calls Tryd.prog 68 #[] w fun e w' => e = .returned (.tuple #[.func (.func 77) #[] #[.pointer (some ⟨w.heap.size, 0, none⟩)], .func (.func 78) #[] #[.pointer (some ⟨w.heap.size, 0, none⟩)]]) ∧
      w' = w.alloc (.cells #[.int .u64 14695981039346656037] 29) := by
  have hmf : ∀ (fn : Fn) (first cap : Array Value) (w : World), (Instr.makeFunc fn first cap).run Tryd.prog w = .ok (.func fn first cap) w := fun _ _ _ _ => rfl
  go_enter Tryd.func68, Tryd.ntmps68
  go_wp2
  go_ret2
  exact ⟨rfl, rfl⟩
set_option maxHeartbeats 1000000 in
theorem digSum_any (A : Option Addr) (c : Nat) (l : List Int) (w : World) (hl : IntsAt w A .u8 l) (hn : l.length ≤ 9223372036854775807) (hb : ∀ i, 0 ≤ l.getD i 0 ∧ l.getD i 0 ≤ 255) :
    Calls Tryd.prog 80 #[.slice A l.length c] w fun e w' => e = .returned (.int .u64 (sumB 14695981039346656037 l)) ∧ Below w.heap.size w w' := by
  have ⟨H_hl, H_hb⟩ := hid2 hl hb; clear hl hb
  go_enter Tryd.func80, Tryd.ntmps80
  go_wp2_with fail
  refine (run_any _).mono ?_; rintro e w1 ⟨rfl, rfl⟩
  go_wp2_with fail
  refine (add_any w.heap.size A c l 14695981039346656037 _ (H_hl.out.alloc _) hn H_hb.out (newAt rfl)).mono ?_
  rintro e w2 ⟨rfl, hg2, hh2⟩
  have hd := cell_of_one hh2
  have ⟨H_hg2, H_hh2⟩ := hid2 hg2 hh2; clear hg2 hh2
  go_wp2_with fail
  refine (tell_any _ _ _ hd).mono ?_
  rintro e w3 ⟨rfl, rfl⟩
  go_wp2_with fail
  go_ret
  exact ⟨rfl, ((Below.refl _ _).alloc (Nat.le_refl _) _).trans (below_of_grown H_hg2.out (by simp) (Nat.le_refl _))⟩
end Go.Proofs.YtmbmejclnagffaaDoor
