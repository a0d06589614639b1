/- Contracts of package codec: whole; and of its reference. -/
import Derived.Test.YtopdgjpoknndmaaCodK
namespace Go.Proofs.Ytopdgjpoknndmaa
set_option linter.unusedSimpArgs false
set_option linter.unusedVariables false
set_option maxRecDepth 100000
open Go.RowKit

theorem codWhole_any (A : Option Addr) (c : Nat) (l : List Int) (w : World) (hl : IntsAt w A .u8 l) (hn2 : l.length ≤ 1000000) (hcap : l.length ≤ c) (hb : ∀ i, 0 ≤ l.getD i 0 ∧ l.getD i 0 ≤ 255) :
    Calls Try.prog 31 #[.slice A l.length c] w (WholePost l w) := by
  by_cases hs : l.length < 11
  · exact whole_short A c l w hs
  · obtain ⟨b, off, rfl, _⟩ := hl 0 (by omega)
    by_cases h : l.length < lenB l + 11
    · exact whole_cut b off c l w hl (by omega) hn2 hcap hb h
    · exact whole_long b off c l w hl (by omega) hn2 hcap hb (by omega)

set_option maxHeartbeats 2000000 in
theorem rwhole_short (A : Option Addr) (c : Nat) (l : List Int) (w : World) (hn : l.length < 11) :
    Calls Try.prog 32 #[.slice A l.length c] w (WholePost l w) := by
  have fin : WholePost l w (.returned (.tuple #[.slice none 0 0, .int .i64 0])) w := .inl ⟨by simp [wholeB, hn], rfl, Below.refl _ _⟩
  have H_fin := Lib.hid fin; clear fin
  go_enter Try.func32, Try.ntmps32
  go_wp2_with fail
  go_ret2
  exact H_fin.out

set_option maxHeartbeats 2000000 in
theorem rwhole_cut (b off c : Nat) (l : List Int) (w : World) (hl : IntsAt w (some ⟨b, off, none⟩) .u8 l) (hn : 11 ≤ l.length) (hn2 : l.length ≤ 1000000) (hcap : l.length ≤ c) (hb : ∀ i, 0 ≤ l.getD i 0 ∧ l.getD i 0 ≤ 255) (h : l.length < lenB l + 11) :
    Calls Try.prog 32 #[.slice (some ⟨b, off, none⟩) l.length c] w (WholePost l w) := by
  have fin : ∀ q, WholePost l w (.returned (.tuple #[.slice none 0 0, .int .i64 0])) (w.drewN q) := fun q => .inl ⟨by simp [wholeB, h, show ¬ l.length < 11 by omega], rfl, below_drewN (Below.refl _ _) _⟩
  have hlb := len_bd hb
  obtain ⟨_, _, e0, hbs, c0⟩ := hl 0 (by omega)
  obtain ⟨_, _, e1, _, c1⟩ := hl 1 (by omega)
  obtain ⟨_, _, e2, _, c2⟩ := hl 2 (by omega)
  injection e0 with e0; injection e0 with e0 e0'; subst e0 e0'
  injection e1 with e1; injection e1 with e1 e1'; subst e1 e1'
  injection e2 with e2; injection e2 with e2 e2'; subst e2 e2'
  have hb0 := hb 0; have hb1 := hb 1; have hb2 := hb 2
  generalize l.getD 0 0 = x at *
  generalize l.getD 1 0 = y at *
  generalize l.getD 2 0 = z at *
  have x0 := hb0.1; have x1 := hb0.2; have y0 := hb1.1; have y1 := hb1.2; have z0 := hb2.1; have z1 := hb2.2
  rw [Nat.add_zero] at c0
  generalize hM : lenB l = M at *
  generalize hN : l.length = N at *
  have j0 : (0 : Int) < (N : Int) := by omega
  have j1 : (1 : Int) < (N : Int) := by omega
  have j2 : (2 : Int) < (N : Int) := by omega
  have em : x * 65536 + y * 256 + z = (M : Int) := hlb.1.symm
  have hM2 := hlb.2
  clear hlb
  have H_hl := Lib.hid hl; clear hl; have H_hb := Lib.hid hb; clear hb; have H_fin := Lib.hid fin; clear fin; have H_hb0 := Lib.hid hb0; clear hb0; have H_hb1 := Lib.hid hb1; clear hb1; have H_hb2 := Lib.hid hb2; clear hb2; have H_hN := Lib.hid hN; clear hN; have H_hM := Lib.hid hM; clear hM
  go_enter Try.func32, Try.ntmps32
  go_wp2_with fail
  go_quiet (fail)
  go_wp2_with fail
  go_ret2
  exact H_fin.out _

theorem refSum_at (A : Option Addr) (c n : Nat) (l : List Int) (hln : l.length = n) (d : Int) (hd : sumB 14695981039346656037 l = d) (w : World) (hl : IntsAt w A .u8 l) (hn : n ≤ 1000000) (hb : ∀ i, 0 ≤ l.getD i 0 ∧ l.getD i 0 ≤ 255) :
    Calls Try.prog 27 #[.slice A n c] w fun e w' => e = .returned (.int .u64 d) ∧ w = w' := by
  subst hln hd; exact refSum_any A c l w hl (by omega) hb
theorem sameBytes_at (A B : Option Addr) (c d n m : Nat) (l k : List Int) (hln : l.length = n) (hkm : k.length = m) (v : Bool) (hv : sameB l k = v) (w : World) (hl : IntsAt w A .u8 l) (hm : IntsAt w B .u8 k) (bl : ∀ x ∈ l, 0 ≤ x ∧ x ≤ 255) (bm : ∀ x ∈ k, 0 ≤ x ∧ x ≤ 255) :
    Calls Try.prog 12 #[.slice A n c, .slice B m d] w fun e w' => e = .returned (.bool v) ∧ w = w' := by
  subst hln hkm hv; exact sameBytes_any A B c d l k w hl hm bl bm
theorem refGet_at (A : Option Addr) (c n : Nat) (l : List Int) (hln : l.length = n) (w : World) (hl : IntsAt w A .u8 l) (hn : n ≤ 1000000) (hcap : n ≤ c) (hb : ∀ i, 0 ≤ l.getD i 0 ∧ l.getD i 0 ≤ 255) :
    Calls Try.prog 16 #[.slice A n c] w (GetPost l w) := by subst hln; exact refGet_any A c l w hl hn hcap hb

set_option maxHeartbeats 4000000 in
theorem rwhole_long (b off c : Nat) (l : List Int) (w : World) (hl : IntsAt w (some ⟨b, off, none⟩) .u8 l) (hn : 11 ≤ l.length) (hn2 : l.length ≤ 1000000) (hcap : l.length ≤ c) (hb : ∀ i, 0 ≤ l.getD i 0 ∧ l.getD i 0 ≤ 255) (h : lenB l + 11 ≤ l.length) :
    Calls Try.prog 32 #[.slice (some ⟨b, off, none⟩) l.length c] w (WholePost l w) := by
  have hw : wholeB l = if (l.drop (3 + lenB l)).take 8 ≠ be8 (sumB 14695981039346656037 (l.take (3 + lenB l))) then none else (getB ((l.take (3 + lenB l)).drop 3)).map fun m => (m, lenB l + 11) := by
    rw [wholeB, if_neg (by omega), if_neg (by omega)]
  have hlb := len_bd hb
  obtain ⟨_, _, e0, hbs, c0⟩ := hl 0 (by omega)
  obtain ⟨_, _, e1, _, c1⟩ := hl 1 (by omega)
  obtain ⟨_, _, e2, _, c2⟩ := hl 2 (by omega)
  injection e0 with e0; injection e0 with e0 e0'; subst e0 e0'
  injection e1 with e1; injection e1 with e1 e1'; subst e1 e1'
  injection e2 with e2; injection e2 with e2 e2'; subst e2 e2'
  have hb0 := hb 0; have hb1 := hb 1; have hb2 := hb 2
  generalize l.getD 0 0 = x at *
  generalize l.getD 1 0 = y at *
  generalize l.getD 2 0 = z at *
  have x0 := hb0.1; have x1 := hb0.2; have y0 := hb1.1; have y1 := hb1.2; have z0 := hb2.1; have z1 := hb2.2
  rw [Nat.add_zero] at c0
  generalize hM : lenB l = M at *
  generalize hN : l.length = N at *
  have j0 : (0 : Int) < (N : Int) := by omega
  have j1 : (1 : Int) < (N : Int) := by omega
  have j2 : (2 : Int) < (N : Int) := by omega
  have em : x * 65536 + y * 256 + z = (M : Int) := hlb.1.symm
  have hM2 := hlb.2
  clear hlb
  have hT := hl.take (3 + M)
  have hTl : (l.take (3 + M)).length = 3 + M := by rw [List.length_take, hN]; omega
  have hTb : ∀ i, 0 ≤ (l.take (3 + M)).getD i 0 ∧ (l.take (3 + M)).getD i 0 ≤ 255 := bytes_getD fun v hv => mem_bytes hb v (List.mem_of_mem_take hv)
  have hE := (hl.drop (3 + M)).take 8
  have hEl : ((l.drop (3 + M)).take 8).length = 8 := by rw [List.length_take, List.length_drop, hN]; omega
  have hEb : ∀ v ∈ (l.drop (3 + M)).take 8, 0 ≤ v ∧ v ≤ 255 := fun v hv => mem_bytes hb v (List.mem_of_mem_drop (List.mem_of_mem_take hv))
  generalize hTd : l.take (3 + M) = T at *
  generalize hEd : (l.drop (3 + M)).take 8 = E8 at *
  have hDb := sumB_bd 14695981039346656037 (by omega) T
  generalize hD : sumB 14695981039346656037 T = D at *
  have hcs := fun W (hW : IntsAt W (some ⟨b, off, none⟩) .u8 T) => refSum_at (some ⟨b, off, none⟩) c (3 + M) T hTl D hD W hW (by omega) hTb
  have hcb := fun W => refBytes_any D W hDb.1 hDb.2
  have hlast : wholeB l = (getB (T.drop 3)).map (fun m => (m, M + 11)) → ∀ l' A' c' W W2, getB (T.drop 3) = some l' → Below w.heap.size w W → OwnInts W2 W.heap.size 3 .i64 A' c' l' → Below W.heap.size W W2 → WholePost l w (.returned (.tuple #[.slice A' l'.length c', .int .i64 ((M : Int) + 11)])) W2 := fun hw l' A' c' W W2 hg hW ho hW2 =>
    .inr ⟨l', M + 11, by rw [hw, hg]; rfl, A', c', ret_slice_int (by omega), ho.base_le hW.size, hW.trans (hW2.mono hW.size)⟩
  have hfinN : wholeB l = (getB (T.drop 3)).map (fun m => (m, M + 11)) → ∀ W W2, getB (T.drop 3) = none → Below w.heap.size w W → Below W.heap.size W W2 → WholePost l w (.returned (.tuple #[.slice none 0 0, .int .i64 0])) W2 := fun hw W W2 hg hW hW2 =>
    .inl ⟨by rw [hw, hg]; rfl, rfl, hW.trans (hW2.mono hW.size)⟩
  have hTd3 : ∀ i, 0 ≤ (T.drop 3).getD i 0 ∧ (T.drop 3).getD i 0 ≤ 255 := getD_drop hTb 3
  have hTl3 : (T.drop 3).length = M := by rw [List.length_drop, hTl]; omega
  have hget := fun (W : World) (hW : IntsAt W (some ⟨b, off, none⟩) .u8 T) => refGet_at (some ⟨b, off + 3, none⟩) (c - 3) M (T.drop 3) hTl3 W (hW.drop 3) (by omega) (by omega) hTd3
  by_cases heq : E8 = be8 D
  · rw [if_neg (by simp [heq])] at hw
    have hv : sameB E8 (be8 D) = true := sameB_iff.2 heq
    have hsm := fun W B3 d3 (h1 : IntsAt W (some ⟨b, off + (3 + M), none⟩) .u8 E8) (h2 : IntsAt W B3 .u8 (be8 D)) => sameBytes_at (some ⟨b, off + (3 + M), none⟩) B3 (c - (3 + M)) d3 8 (be8 D).length E8 (be8 D) hEl rfl true hv W h1 h2 hEb (be8_bytes D)
    have H_hl := Lib.hid hl; clear hl; have H_hb := Lib.hid hb; clear hb; have H_hb0 := Lib.hid hb0; clear hb0; have H_hb1 := Lib.hid hb1; clear hb1; have H_hb2 := Lib.hid hb2; clear hb2; have H_hN := Lib.hid hN; clear hN; have H_hM := Lib.hid hM; clear hM; have H_hw := Lib.hid hw; clear hw; have H_hT := Lib.hid hT; clear hT; have H_hTl := Lib.hid hTl; clear hTl; have H_hTb := Lib.hid hTb; clear hTb; have H_hTd := Lib.hid hTd; clear hTd; have H_hEd := Lib.hid hEd; clear hEd; have H_hE := Lib.hid hE; clear hE; have H_hEl := Lib.hid hEl; clear hEl; have H_hEb := Lib.hid hEb; clear hEb; have H_hDb := Lib.hid hDb; clear hDb; have H_hD := Lib.hid hD; clear hD; have H_hcs := Lib.hid hcs; clear hcs; have H_hcb := Lib.hid hcb; clear hcb; have H_hlast := Lib.hid hlast; clear hlast; have H_hfinN := Lib.hid hfinN; clear hfinN; have H_hTd3 := Lib.hid hTd3; clear hTd3; have H_hTl3 := Lib.hid hTl3; clear hTl3; have H_hget := Lib.hid hget; clear hget; have H_heq := Lib.hid heq; clear heq; have H_hv := Lib.hid hv; clear hv; have H_hsm := Lib.hid hsm; clear hsm
    go_enter Try.func32, Try.ntmps32
    go_wp2_with fail
    go_quiet (fail)
    go_wp2_with fail
    have r1 : (0 : Int) ≤ 3 + (M : Int) := by omega
    have r2 : 3 + (M : Int) ≤ 11 + (M : Int) := by omega
    have r3 : 11 + (M : Int) ≤ (c : Int) := by omega
    have r3' : 3 + (M : Int) ≤ (c : Int) := by omega
    have r4 : ¬ c = 3 + M := by omega
    have r5 : (3 + (M : Int)).toNat = 3 + M := by omega
    have r6 : (11 + (M : Int)).toNat = 11 + M := by omega
    have r7 : IntKind.i64.wrap (3 + (M : Int)) = 3 + (M : Int) := IntWalk.i64_in _ (by omega)
    have r7' : IntKind.i64.wrap (11 + (M : Int)) = 11 + (M : Int) := IntWalk.i64_in _ (by omega)
    have r8 : 11 + M - (3 + M) = 8 := by omega
    go_region_held3 (fun W => (∀ b o, b < w.heap.size → W.cell? ⟨b, o, none⟩ = w.cell? ⟨b, o, none⟩) ∧ Below w.heap.size w W) (first | (refine ext_mk ?_; (repeat (first | with_reducible exact Below.refl _ _ | with_reducible exact Nat.le_refl _ | with_reducible assumption | with_reducible refine Below.drew ?_ | with_reducible refine below_drewN ?_ _ | with_reducible refine Below.alloc ?_ ?_ _ | with_reducible refine Below.setCell ?_ ?_ _ | with_reducible exact And.right (by assumption) | with_reducible refine Below.trans ?_ (Below.mono (by assumption) ?_) | with_reducible exact Below.size (And.right (by assumption)) | (focus omega) | (focus (simp; done)) | (focus (simp; omega)) | (focus (simp at *; omega)))))) (first | (go_at_call 27; refine (H_hcs.out _ ?_).mono ?_; (focus (exact (H_hT.out.below (And.right (by assumption))))); rintro e w1 ⟨rfl, rfl⟩) | (go_at_call 26; refine (H_hcb.out _).mono ?_; rintro e w1 ⟨B3, d3, rfl, ho3, hg3, hB3⟩; have hb1 := below_of_grown_none hg3; have H_ho3 := Lib.hid ho3; clear ho3; have H_hg3 := Lib.hid hg3; clear hg3; have H_hB3 := Lib.hid hB3; clear hB3) | (go_at_call 12; refine (H_hsm.out _ _ _ ?_ ?_).mono ?_; (focus (exact (H_hE.out.below (And.right (by assumption))))); (focus (exact H_ho3.out.ints)); rintro e w1 ⟨rfl, rfl⟩))
    all_goals
      have hbw1 : Below w.heap.size w w1 := And.right (by assumption)
      have hc3 : ¬ c = 3 := by omega
      have hm3 : 3 + M - 3 = M := by omega
      have hm4 : (3 : Int) ≤ 3 + (M : Int) := by omega
      go_wp2_with fail
      refine (H_hget.out w1 (H_hT.out.below hbw1)).mono ?_
      rintro e w2 (⟨hg, rfl, hb2⟩ | ⟨l', hg, A', c', rfl, ho2, hb2⟩)
      · have fin := H_hfinN.out H_hw.out w1 w2 hg hbw1 hb2
        have H_fin := Lib.hid fin; clear fin; have H_hg := Lib.hid hg; clear hg; have H_hb2 := Lib.hid hb2; clear hb2
        go_wp2_with fail
        go_ret2
        exact H_fin.out
      · have fin := H_hlast.out H_hw.out l' A' c' w1 w2 hg hbw1 ho2 hb2
        have H_fin := Lib.hid fin; clear fin; have H_hg := Lib.hid hg; clear hg; have H_ho2 := Lib.hid ho2; clear ho2; have H_hb2 := Lib.hid hb2; clear hb2
        go_wp2_with fail
        go_ret2
        exact H_fin.out
  · rw [if_pos heq] at hw
    have hv : sameB E8 (be8 D) = false := by rw [Bool.eq_false_iff]; intro h; exact heq (sameB_iff.1 h)
    have hsm := fun W B3 d3 (h1 : IntsAt W (some ⟨b, off + (3 + M), none⟩) .u8 E8) (h2 : IntsAt W B3 .u8 (be8 D)) => sameBytes_at (some ⟨b, off + (3 + M), none⟩) B3 (c - (3 + M)) d3 8 (be8 D).length E8 (be8 D) hEl rfl false hv W h1 h2 hEb (be8_bytes D)
    have fin : ∀ W, Below w.heap.size w W → WholePost l w (.returned (.tuple #[.slice none 0 0, .int .i64 0])) W := fun W hW => .inl ⟨hw, rfl, hW⟩
    have H_hl := Lib.hid hl; clear hl; have H_hb := Lib.hid hb; clear hb; have H_hb0 := Lib.hid hb0; clear hb0; have H_hb1 := Lib.hid hb1; clear hb1; have H_hb2 := Lib.hid hb2; clear hb2; have H_hN := Lib.hid hN; clear hN; have H_hM := Lib.hid hM; clear hM; have H_hw := Lib.hid hw; clear hw; have H_hT := Lib.hid hT; clear hT; have H_hTl := Lib.hid hTl; clear hTl; have H_hTb := Lib.hid hTb; clear hTb; have H_hTd := Lib.hid hTd; clear hTd; have H_hEd := Lib.hid hEd; clear hEd; have H_hE := Lib.hid hE; clear hE; have H_hEl := Lib.hid hEl; clear hEl; have H_hEb := Lib.hid hEb; clear hEb; have H_hDb := Lib.hid hDb; clear hDb; have H_hD := Lib.hid hD; clear hD; have H_hcs := Lib.hid hcs; clear hcs; have H_hcb := Lib.hid hcb; clear hcb; have H_hlast := Lib.hid hlast; clear hlast; have H_hfinN := Lib.hid hfinN; clear hfinN; have H_hTd3 := Lib.hid hTd3; clear hTd3; have H_hTl3 := Lib.hid hTl3; clear hTl3; have H_hget := Lib.hid hget; clear hget; have H_heq := Lib.hid heq; clear heq; have H_hv := Lib.hid hv; clear hv; have H_hsm := Lib.hid hsm; clear hsm; have H_fin := Lib.hid fin; clear fin
    go_enter Try.func32, Try.ntmps32
    go_wp2_with fail
    go_quiet (fail)
    go_wp2_with fail
    have r1 : (0 : Int) ≤ 3 + (M : Int) := by omega
    have r2 : 3 + (M : Int) ≤ 11 + (M : Int) := by omega
    have r3 : 11 + (M : Int) ≤ (c : Int) := by omega
    have r3' : 3 + (M : Int) ≤ (c : Int) := by omega
    have r4 : ¬ c = 3 + M := by omega
    have r5 : (3 + (M : Int)).toNat = 3 + M := by omega
    have r6 : (11 + (M : Int)).toNat = 11 + M := by omega
    have r7 : IntKind.i64.wrap (3 + (M : Int)) = 3 + (M : Int) := IntWalk.i64_in _ (by omega)
    have r7' : IntKind.i64.wrap (11 + (M : Int)) = 11 + (M : Int) := IntWalk.i64_in _ (by omega)
    have r8 : 11 + M - (3 + M) = 8 := by omega
    go_region_held3 (fun W => (∀ b o, b < w.heap.size → W.cell? ⟨b, o, none⟩ = w.cell? ⟨b, o, none⟩) ∧ Below w.heap.size w W) (first | (refine ext_mk ?_; (repeat (first | with_reducible exact Below.refl _ _ | with_reducible exact Nat.le_refl _ | with_reducible assumption | with_reducible refine Below.drew ?_ | with_reducible refine below_drewN ?_ _ | with_reducible refine Below.alloc ?_ ?_ _ | with_reducible refine Below.setCell ?_ ?_ _ | with_reducible exact And.right (by assumption) | with_reducible refine Below.trans ?_ (Below.mono (by assumption) ?_) | with_reducible exact Below.size (And.right (by assumption)) | (focus omega) | (focus (simp; done)) | (focus (simp; omega)) | (focus (simp at *; omega)))))) (first | (go_at_call 27; refine (H_hcs.out _ ?_).mono ?_; (focus (exact (H_hT.out.below (And.right (by assumption))))); rintro e w1 ⟨rfl, rfl⟩) | (go_at_call 26; refine (H_hcb.out _).mono ?_; rintro e w1 ⟨B3, d3, rfl, ho3, hg3, hB3⟩; have hb1 := below_of_grown_none hg3; have H_ho3 := Lib.hid ho3; clear ho3; have H_hg3 := Lib.hid hg3; clear hg3; have H_hB3 := Lib.hid hB3; clear hB3) | (go_at_call 12; refine (H_hsm.out _ _ _ ?_ ?_).mono ?_; (focus (exact (H_hE.out.below (And.right (by assumption))))); (focus (exact H_ho3.out.ints)); rintro e w1 ⟨rfl, rfl⟩))
    all_goals
      go_wp2_with fail
      go_ret2
      exact H_fin.out _ (And.right (by assumption))

theorem refWhole_any (A : Option Addr) (c : Nat) (l : List Int) (w : World) (hl : IntsAt w A .u8 l) (hn2 : l.length ≤ 1000000) (hcap : l.length ≤ c) (hb : ∀ i, 0 ≤ l.getD i 0 ∧ l.getD i 0 ≤ 255) :
    Calls Try.prog 32 #[.slice A l.length c] w (WholePost l w) := by
  by_cases hs : l.length < 11
  · exact rwhole_short A c l w hs
  · obtain ⟨b, off, rfl, _⟩ := hl 0 (by omega)
    by_cases h : l.length < lenB l + 11
    · exact rwhole_cut b off c l w hl (by omega) hn2 hcap hb h
    · exact rwhole_long b off c l w hl (by omega) hn2 hcap hb (by omega)
end Go.Proofs.Ytopdgjpoknndmaa
