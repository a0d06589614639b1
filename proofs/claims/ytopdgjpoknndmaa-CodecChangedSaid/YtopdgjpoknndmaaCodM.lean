/- Contracts of package codec: Frames; and of its reference: Frames, SameLists. -/
import Derived.Test.YtopdgjpoknndmaaCodL
import Derived.Test.YtopdgjpoknndmaaLis
namespace Go.Proofs.Ytopdgjpoknndmaa
set_option linter.unusedSimpArgs false
set_option linter.unusedVariables false
set_option maxRecDepth 100000
open Go.RowKit

/-- the lists of all whole frames with which bytes begin, and how many bytes these take; the first number bounds how many are read -/
def frB : Nat → List Int → List (List Int) × Nat
  | 0, _ => ([], 0)
  | f + 1, b => match wholeB b with
    | none => ([], 0)
    | some (l, n) => (l :: (frB f (b.drop n)).1, n + (frB f (b.drop n)).2)
def framesB (b : List Int) : List (List Int) × Nat := frB (b.length + 1) b

theorem whole_len {b l : List Int} {n : Nat} (h : wholeB b = some (l, n)) : n ≤ b.length ∧ 11 ≤ n := by
  unfold wholeB at h
  by_cases h1 : b.length < 11
  · rw [if_pos h1] at h; cases h
  rw [if_neg h1] at h
  by_cases h2 : b.length < lenB b + 11
  · rw [if_pos h2] at h; cases h
  rw [if_neg h2] at h
  by_cases h3 : (b.drop (3 + lenB b)).take 8 ≠ be8 (sumB 14695981039346656037 (b.take (3 + lenB b)))
  · rw [if_pos h3] at h; cases h
  rw [if_neg h3, Option.map_eq_some_iff] at h
  obtain ⟨a, _, e⟩ := h
  injection e with e1 e2
  omega
theorem frB_fuel : ∀ (f g : Nat) (b : List Int), b.length < f → b.length < g → frB f b = frB g b
  | 0, _, _, h, _ => by omega
  | _, 0, _, _, h => by omega
  | f + 1, g + 1, b, hf, hg => by
    rw [frB, frB]
    cases hw : wholeB b with
    | none => rfl
    | some ln =>
      obtain ⟨l, n⟩ := ln
      have hl := whole_len hw
      have hd : (b.drop n).length = b.length - n := by simp
      dsimp only
      rw [frB_fuel f g (b.drop n) (by omega) (by omega)]

/-- what Frames leaves -/
def FrPost (b : List Int) (w : World) (e : Ending) (w' : World) : Prop :=
  ∃ A c, e = .returned (.tuple #[.slice A (framesB b).1.length c, .int .i64 ((framesB b).2 : Nat), .int .i64 0]) ∧ OwnLists w' w.heap.size A c (framesB b).1 ∧ Below w.heap.size w w'
theorem ret_fr {A : Option Addr} {n m c : Nat} {x y : Int} (h : n = m) (h' : x = y) : Ending.returned (.tuple #[.slice A n c, .int .i64 x, .int .i64 0]) = .returned (.tuple #[.slice A m c, .int .i64 y, .int .i64 0]) := by rw [h, h']

structure FrInv (l : List Int) (w : World) (P : Nat) (acc : List (List Int)) (L : Option Addr) (d : Nat) (wr : World) : Prop where
  hP : P ≤ l.length
  own : OwnLists wr w.heap.size L d acc
  below : Below w.heap.size w wr
  v1 : (framesB l).1 = acc ++ (frB (l.length - P + 1) (l.drop P)).1
  v2 : (framesB l).2 = P + (frB (l.length - P + 1) (l.drop P)).2
  cnt : acc.length ≤ P
theorem fr_done {l : List Int} {w : World} {P : Nat} {acc : List (List Int)} {L : Option Addr} {d : Nat} {wr w2 : World} (inv : FrInv l w P acc L d wr) (hw : wholeB (l.drop P) = none) (hb : Below wr.heap.size wr w2) :
    FrPost l w (.returned (.tuple #[.slice L acc.length d, .int .i64 P, .int .i64 0])) w2 := by
  have h1 := inv.v1
  have h2 := inv.v2
  rw [frB, hw] at h1 h2
  simp at h1 h2
  refine ⟨L, d, ret_fr (by rw [h1]) (by rw [h2]), ?_, inv.below.trans (hb.mono inv.below.size)⟩
  rw [h1]; exact inv.own.below hb
theorem fr_next {l : List Int} {w : World} {P : Nat} {acc : List (List Int)} {L : Option Addr} {d : Nat} {wr : World} (inv : FrInv l w P acc L d wr) {li : List Int} {n : Nat} (hw : wholeB (l.drop P) = some (li, n)) {L' : Option Addr} {d' : Nat} {w2 : World}
    (ho : OwnLists w2 w.heap.size L' d' (acc ++ [li])) (hb : Below w.heap.size w w2) : FrInv l w (P + n) (acc ++ [li]) L' d' w2 := by
  have hl := whole_len hw
  have hd : (l.drop P).length = l.length - P := by simp
  have h1 := inv.v1
  have h2 := inv.v2
  have hP := inv.hP
  have hc := inv.cnt
  rw [frB, hw] at h1 h2
  dsimp only at h1 h2
  rw [List.drop_drop] at h1 h2
  have e : frB (l.length - P) (l.drop (P + n)) = frB (l.length - (P + n) + 1) (l.drop (P + n)) := frB_fuel _ _ _ (by rw [List.length_drop]; omega) (by rw [List.length_drop]; omega)
  rw [e] at h1 h2
  exact ⟨by omega, ho, hb, by rw [h1]; simp, by rw [h2]; omega, by simp; omega⟩

theorem codFrames_no (A : Option Addr) (c n : Nat) (w : World) (h : 200000 < n) :
    Calls Try.prog 18 #[.slice A n c] w fun e w' => e = .returned (.tuple #[.slice none 0 0, .int .i64 0, .int .i64 2]) ∧ w = w' := by
  go_enter Try.func18, Try.ntmps18
  go_wp2_with fail
  go_ret3
  exact ⟨rfl, rfl⟩
theorem codWhole_at (A : Option Addr) (c n : Nat) (l : List Int) (hln : l.length = n) (w : World) (hl : IntsAt w A .u8 l) (hn2 : n ≤ 1000000) (hcap : n ≤ c) (hb : ∀ i, 0 ≤ l.getD i 0 ∧ l.getD i 0 ≤ 255) :
    Calls Try.prog 31 #[.slice A n c] w (WholePost l w) := by subst hln; exact codWhole_any A c l w hl hn2 hcap hb

set_option maxHeartbeats 4000000 in
theorem codFrames_some (b off c : Nat) (l : List Int) (w : World) (hl : IntsAt w (some ⟨b, off, none⟩) .u8 l) (hn2 : l.length ≤ 200000) (hcap : l.length ≤ c) (hb : ∀ i, 0 ≤ l.getD i 0 ∧ l.getD i 0 ≤ 255) :
    Calls Try.prog 18 #[.slice (some ⟨b, off, none⟩) l.length c] w (FrPost l w) := by
  have hst : framesB l = frB (l.length - 0 + 1) (l.drop 0) := rfl
  generalize hN : l.length = N at *
  have H_hl := Lib.hid hl; clear hl; have H_hb := Lib.hid hb; clear hb; have H_hN := Lib.hid hN; clear hN; have H_hst := Lib.hid hst; clear hst
  go_enter Try.func18, Try.ntmps18
  go_wp2_with fail
  go_loopw [5, 6] (fun out at_ wr => ∃ (P : Nat) (acc : List (List Int)) (L : Option Addr) (d : Nat), out = .slice L acc.length d ∧ at_ = .int .i64 P ∧ FrInv l w P acc L d wr) (fun _ at_ _ => N - (intOf at_).toNat)
  case atStart => exact ⟨0, [], none, 0, rfl, rfl, by omega, OwnLists.nil _ _, Below.refl _ _, by rw [H_hN.out]; rw [H_hst.out]; rfl, by rw [H_hN.out]; rw [H_hst.out]; simp, by simp⟩
  case round =>
    obtain ⟨P, acc, L, d, rfl, rfl, inv⟩ := hrel
    have hP : P ≤ N := by have := inv.hP; rw [H_hN.out] at this; exact this
    have hbD := getD_drop H_hb.out P
    have hlenD : (l.drop P).length = N - P := by rw [List.length_drop, H_hN.out]
    have hiD := (H_hl.out.drop P).below inv.below
    have hiE : N = P → IntsAt wr (some ⟨b, off, none⟩) .u8 (l.drop P) := fun h => IntsAt.empty (List.drop_eq_nil_of_le (by rw [H_hN.out]; omega))
    have hsz := inv.below.size
    have hcnt := inv.cnt
    have hown := inv.own
    by_cases hcP : c = P
    · have hNP : N = P := by omega
      have hwn : wholeB (l.drop P) = none := by simp [wholeB, hlenD, show N - P < 11 by omega]
      have hcw := codWhole_at (some ⟨b, off, none⟩) 0 0 (l.drop P) (by rw [hlenD]; omega) wr (hiE hNP) (by omega) (by omega) hbD
      have hdone := fun w2 => fr_done (w2 := w2) inv hwn
      have H_hiE := Lib.hid hiE; clear hiE; have H_hNP := Lib.hid hNP; clear hNP; have H_hwn := Lib.hid hwn; clear hwn; have H_hcw := Lib.hid hcw; clear hcw; have H_hdone := Lib.hid hdone; clear hdone; have H_inv := Lib.hid inv; clear inv; have H_hbD := Lib.hid hbD; clear hbD; have H_hlenD := Lib.hid hlenD; clear hlenD; have H_hiD := Lib.hid hiD; clear hiD; have H_hown := Lib.hid hown; clear hown
      have hcN : N - P = 0 := by omega
      go_wp2_with fail
      refine (H_hcw.out).mono ?_
      rintro e w2 (⟨hg, rfl, hb2⟩ | ⟨l', n', hg, _⟩)
      · have fin := H_hdone.out w2 hb2
        have H_fin := Lib.hid fin; clear fin; have H_hg := Lib.hid hg; clear hg; have H_hb2 := Lib.hid hb2; clear hb2
        go_wp2_with fail
        go_ret3
        exact H_fin.out
      · rw [H_hwn.out] at hg; cases hg
    · have hcw := codWhole_at (some ⟨b, off + P, none⟩) (c - P) (N - P) (l.drop P) hlenD wr hiD (by omega) (by omega) hbD
      have H_hiE := Lib.hid hiE; clear hiE; have H_hcw := Lib.hid hcw; clear hcw; have H_inv := Lib.hid inv; clear inv; have H_hbD := Lib.hid hbD; clear hbD; have H_hlenD := Lib.hid hlenD; clear hlenD; have H_hiD := Lib.hid hiD; clear hiD; have H_hown := Lib.hid hown; clear hown
      go_wp2_with fail
      refine (H_hcw.out).mono ?_
      rintro e w2 (⟨hg, rfl, hb2⟩ | ⟨l', n', hg, A', c', rfl, ho2, hb2⟩)
      · have fin := fr_done H_inv.out hg hb2
        have H_fin := Lib.hid fin; clear fin; have H_hg := Lib.hid hg; clear hg; have H_hb2 := Lib.hid hb2; clear hb2
        go_wp2_with fail
        go_ret3
        exact H_fin.out
      · have hln := whole_len hg
        have hn1 : n' ≤ N - P := by rw [← H_hlenD.out]; exact hln.1
        have hn0 : 11 ≤ n' := hln.2
        have kk : ((n' : Int) == 0) = false := by simp; omega
        have hlo := H_hown.out.below hb2
        have hbw2 : Below w.heap.size w w2 := H_inv.out.below.trans (hb2.mono hsz)
        have hs2 := hbw2.size
        have hoi := ho2.base_le hsz
        have hz2 := hb2.size
        have H_hg := Lib.hid hg; clear hg; have H_ho2 := Lib.hid ho2; clear ho2; have H_hb2 := Lib.hid hb2; clear hb2; have H_hln := Lib.hid hln; clear hln; have H_hlo := Lib.hid hlo; clear hlo; have H_hbw2 := Lib.hid hbw2; clear hbw2; have H_hoi := Lib.hid hoi; clear hoi
        go_wp2_with (at_builtin; refine wp_app_list _ rfl (.tmp 23) (.tmp 25) rfl w.heap.size L d acc rfl (H_hlo.out.alloc _) A' c' l' (H_hoi.out.alloc _) w2.heap.size rfl ?_ ?_ ?_ ?_)
        · go_simp
        · omega
        · simp; omega
        intro L' d' w3 ho3 hg3
        have hbw3 : Below w.heap.size w w3 := (H_hbw2.out.alloc hs2 _).grown hg3 (by simp; omega) fun g hg => (H_hlo.out.lt g hg).1
        have inv3 := fr_next H_inv.out H_hg.out ho3 hbw3
        have H_ho3 := Lib.hid ho3; clear ho3; have H_hg3 := Lib.hid hg3; clear hg3; have H_hbw3 := Lib.hid hbw3; clear hbw3; have H_inv3 := Lib.hid inv3; clear inv3
        go_wp2_with fail
        go_roundw
        case rel => exact ⟨P + n', acc ++ [l'], L', d', by simp, by go_num, H_inv3.out⟩
        case measure => simp [intOf]; omega
theorem refFrames_no (A : Option Addr) (c n : Nat) (w : World) (h : 200000 < n) :
    Calls Try.prog 19 #[.slice A n c] w fun e w' => e = .returned (.tuple #[.slice none 0 0, .int .i64 0, .int .i64 2]) ∧ w = w' := by
  go_enter Try.func19, Try.ntmps19
  go_wp2_with fail
  go_ret3
  exact ⟨rfl, rfl⟩
theorem refWhole_at (A : Option Addr) (c n : Nat) (l : List Int) (hln : l.length = n) (w : World) (hl : IntsAt w A .u8 l) (hn2 : n ≤ 1000000) (hcap : n ≤ c) (hb : ∀ i, 0 ≤ l.getD i 0 ∧ l.getD i 0 ≤ 255) :
    Calls Try.prog 32 #[.slice A n c] w (WholePost l w) := by subst hln; exact refWhole_any A c l w hl hn2 hcap hb

set_option maxHeartbeats 4000000 in
theorem refFrames_some (b off c : Nat) (l : List Int) (w : World) (hl : IntsAt w (some ⟨b, off, none⟩) .u8 l) (hn2 : l.length ≤ 200000) (hcap : l.length ≤ c) (hb : ∀ i, 0 ≤ l.getD i 0 ∧ l.getD i 0 ≤ 255) :
    Calls Try.prog 19 #[.slice (some ⟨b, off, none⟩) l.length c] w (FrPost l w) := by
  have hst : framesB l = frB (l.length - 0 + 1) (l.drop 0) := rfl
  generalize hN : l.length = N at *
  have H_hl := Lib.hid hl; clear hl; have H_hb := Lib.hid hb; clear hb; have H_hN := Lib.hid hN; clear hN; have H_hst := Lib.hid hst; clear hst
  go_enter Try.func19, Try.ntmps19
  go_wp2_with fail
  go_loopw [5, 6] (fun out at_ wr => ∃ (P : Nat) (acc : List (List Int)) (L : Option Addr) (d : Nat), out = .slice L acc.length d ∧ at_ = .int .i64 P ∧ FrInv l w P acc L d wr) (fun _ at_ _ => N - (intOf at_).toNat)
  case atStart => exact ⟨0, [], none, 0, rfl, rfl, by omega, OwnLists.nil _ _, Below.refl _ _, by rw [H_hN.out]; rw [H_hst.out]; rfl, by rw [H_hN.out]; rw [H_hst.out]; simp, by simp⟩
  case round =>
    obtain ⟨P, acc, L, d, rfl, rfl, inv⟩ := hrel
    have hP : P ≤ N := by have := inv.hP; rw [H_hN.out] at this; exact this
    have hbD := getD_drop H_hb.out P
    have hlenD : (l.drop P).length = N - P := by rw [List.length_drop, H_hN.out]
    have hiD := (H_hl.out.drop P).below inv.below
    have hiE : N = P → IntsAt wr (some ⟨b, off, none⟩) .u8 (l.drop P) := fun h => IntsAt.empty (List.drop_eq_nil_of_le (by rw [H_hN.out]; omega))
    have hsz := inv.below.size
    have hcnt := inv.cnt
    have hown := inv.own
    by_cases hcP : c = P
    · have hNP : N = P := by omega
      have hwn : wholeB (l.drop P) = none := by simp [wholeB, hlenD, show N - P < 11 by omega]
      have hcw := refWhole_at (some ⟨b, off, none⟩) 0 0 (l.drop P) (by rw [hlenD]; omega) wr (hiE hNP) (by omega) (by omega) hbD
      have hdone := fun w2 => fr_done (w2 := w2) inv hwn
      have H_hiE := Lib.hid hiE; clear hiE; have H_hNP := Lib.hid hNP; clear hNP; have H_hwn := Lib.hid hwn; clear hwn; have H_hcw := Lib.hid hcw; clear hcw; have H_hdone := Lib.hid hdone; clear hdone; have H_inv := Lib.hid inv; clear inv; have H_hbD := Lib.hid hbD; clear hbD; have H_hlenD := Lib.hid hlenD; clear hlenD; have H_hiD := Lib.hid hiD; clear hiD; have H_hown := Lib.hid hown; clear hown
      have hcN : N - P = 0 := by omega
      go_wp2_with fail
      refine (H_hcw.out).mono ?_
      rintro e w2 (⟨hg, rfl, hb2⟩ | ⟨l', n', hg, _⟩)
      · have fin := H_hdone.out w2 hb2
        have H_fin := Lib.hid fin; clear fin; have H_hg := Lib.hid hg; clear hg; have H_hb2 := Lib.hid hb2; clear hb2
        go_wp2_with fail
        go_ret3
        exact H_fin.out
      · rw [H_hwn.out] at hg; cases hg
    · have hcw := refWhole_at (some ⟨b, off + P, none⟩) (c - P) (N - P) (l.drop P) hlenD wr hiD (by omega) (by omega) hbD
      have H_hiE := Lib.hid hiE; clear hiE; have H_hcw := Lib.hid hcw; clear hcw; have H_inv := Lib.hid inv; clear inv; have H_hbD := Lib.hid hbD; clear hbD; have H_hlenD := Lib.hid hlenD; clear hlenD; have H_hiD := Lib.hid hiD; clear hiD; have H_hown := Lib.hid hown; clear hown
      go_wp2_with fail
      refine (H_hcw.out).mono ?_
      rintro e w2 (⟨hg, rfl, hb2⟩ | ⟨l', n', hg, A', c', rfl, ho2, hb2⟩)
      · have fin := fr_done H_inv.out hg hb2
        have H_fin := Lib.hid fin; clear fin; have H_hg := Lib.hid hg; clear hg; have H_hb2 := Lib.hid hb2; clear hb2
        go_wp2_with fail
        go_ret3
        exact H_fin.out
      · have hln := whole_len hg
        have hn1 : n' ≤ N - P := by rw [← H_hlenD.out]; exact hln.1
        have hn0 : 11 ≤ n' := hln.2
        have kk : ((n' : Int) == 0) = false := by simp; omega
        have hlo := H_hown.out.below hb2
        have hbw2 : Below w.heap.size w w2 := H_inv.out.below.trans (hb2.mono hsz)
        have hs2 := hbw2.size
        have hoi := ho2.base_le hsz
        have hz2 := hb2.size
        have H_hg := Lib.hid hg; clear hg; have H_ho2 := Lib.hid ho2; clear ho2; have H_hb2 := Lib.hid hb2; clear hb2; have H_hln := Lib.hid hln; clear hln; have H_hlo := Lib.hid hlo; clear hlo; have H_hbw2 := Lib.hid hbw2; clear hbw2; have H_hoi := Lib.hid hoi; clear hoi
        go_wp2_with (at_builtin; refine wp_app_list _ rfl (.tmp 23) (.tmp 25) rfl w.heap.size L d acc rfl (H_hlo.out.alloc _) A' c' l' (H_hoi.out.alloc _) w2.heap.size rfl ?_ ?_ ?_ ?_)
        · go_simp
        · omega
        · simp; omega
        intro L' d' w3 ho3 hg3
        have hbw3 : Below w.heap.size w w3 := (H_hbw2.out.alloc hs2 _).grown hg3 (by simp; omega) fun g hg => (H_hlo.out.lt g hg).1
        have inv3 := fr_next H_inv.out H_hg.out ho3 hbw3
        have H_ho3 := Lib.hid ho3; clear ho3; have H_hg3 := Lib.hid hg3; clear hg3; have H_hbw3 := Lib.hid hbw3; clear hbw3; have H_inv3 := Lib.hid inv3; clear inv3
        go_wp2_with fail
        go_roundw
        case rel => exact ⟨P + n', acc ++ [l'], L', d', by simp, by go_num, H_inv3.out⟩
        case measure => simp [intOf]; omega

theorem wholeB_nil : wholeB [] = none := by simp [wholeB]
theorem framesB_nil : framesB [] = ([], 0) := by simp [framesB, frB, wholeB_nil]
set_option maxHeartbeats 2000000 in
theorem codFrames_nil (A : Option Addr) (c : Nat) (w : World) :
    Calls Try.prog 18 #[.slice A 0 c] w (FrPost [] w) := by
  have fin : ∀ w', Below w.heap.size w w' → FrPost [] w (.returned (.tuple #[.slice none 0 0, .int .i64 0, .int .i64 0])) w' := fun w' h => ⟨none, 0, by rw [framesB_nil]; rfl, by rw [framesB_nil]; exact OwnLists.nil _ _, h⟩
  have hcw := fun (B : Option Addr) (d : Nat) (W : World) => codWhole_at B d 0 [] rfl W IntsAt.nil (by omega) (by omega) (fun i => by simp)
  have H_fin := Lib.hid fin; clear fin; have H_hcw := Lib.hid hcw; clear hcw
  cases A with
  | none =>
    go_enter Try.func18, Try.ntmps18
    go_wp2_with fail
    refine wp_loop_rounds 1 ?_
    rw [rounds_succ]
    go_wp2_with fail
    all_goals
      refine (H_hcw.out _ _ _).mono ?_
      rintro e w2 (⟨hg, rfl, hb2⟩ | ⟨l', n', hg, _⟩)
      · have fin := H_fin.out w2 hb2
        have H_fin := Lib.hid fin; clear fin; have H_hg := Lib.hid hg; clear hg; have H_hb2 := Lib.hid hb2; clear hb2
        go_wp2_with fail
        go_ret3
        exact H_fin.out
      · rw [wholeB_nil] at hg; cases hg
  | some a =>
    by_cases hc0 : c = 0
    · subst hc0
      go_enter Try.func18, Try.ntmps18
      go_wp2_with fail
      refine wp_loop_rounds 1 ?_
      rw [rounds_succ]
      go_wp2_with fail
      all_goals
        refine (H_hcw.out _ _ _).mono ?_
        rintro e w2 (⟨hg, rfl, hb2⟩ | ⟨l', n', hg, _⟩)
        · have fin := H_fin.out w2 hb2
          have H_fin := Lib.hid fin; clear fin; have H_hg := Lib.hid hg; clear hg; have H_hb2 := Lib.hid hb2; clear hb2
          go_wp2_with fail
          go_ret3
          exact H_fin.out
        · rw [wholeB_nil] at hg; cases hg
    · go_enter Try.func18, Try.ntmps18
      go_wp2_with fail
      refine wp_loop_rounds 1 ?_
      rw [rounds_succ]
      go_wp2_with fail
      all_goals
        refine (H_hcw.out _ _ _).mono ?_
        rintro e w2 (⟨hg, rfl, hb2⟩ | ⟨l', n', hg, _⟩)
        · have fin := H_fin.out w2 hb2
          have H_fin := Lib.hid fin; clear fin; have H_hg := Lib.hid hg; clear hg; have H_hb2 := Lib.hid hb2; clear hb2
          go_wp2_with fail
          go_ret3
          exact H_fin.out
        · rw [wholeB_nil] at hg; cases hg
theorem codFrames_any (A : Option Addr) (c : Nat) (l : List Int) (w : World) (hl : IntsAt w A .u8 l) (hn2 : l.length ≤ 200000) (hcap : l.length ≤ c) (hb : ∀ i, 0 ≤ l.getD i 0 ∧ l.getD i 0 ≤ 255) :
    Calls Try.prog 18 #[.slice A l.length c] w (FrPost l w) := by
  cases l with
  | nil => exact codFrames_nil A c w
  | cons x r =>
    obtain ⟨b, off, rfl, _⟩ := hl 0 (by simp)
    exact codFrames_some b off c (x :: r) w hl hn2 hcap hb
set_option maxHeartbeats 2000000 in
theorem refFrames_nil (A : Option Addr) (c : Nat) (w : World) :
    Calls Try.prog 19 #[.slice A 0 c] w (FrPost [] w) := by
  have fin : ∀ w', Below w.heap.size w w' → FrPost [] w (.returned (.tuple #[.slice none 0 0, .int .i64 0, .int .i64 0])) w' := fun w' h => ⟨none, 0, by rw [framesB_nil]; rfl, by rw [framesB_nil]; exact OwnLists.nil _ _, h⟩
  have hcw := fun (B : Option Addr) (d : Nat) (W : World) => refWhole_at B d 0 [] rfl W IntsAt.nil (by omega) (by omega) (fun i => by simp)
  have H_fin := Lib.hid fin; clear fin; have H_hcw := Lib.hid hcw; clear hcw
  cases A with
  | none =>
    go_enter Try.func19, Try.ntmps19
    go_wp2_with fail
    refine wp_loop_rounds 1 ?_
    rw [rounds_succ]
    go_wp2_with fail
    all_goals
      refine (H_hcw.out _ _ _).mono ?_
      rintro e w2 (⟨hg, rfl, hb2⟩ | ⟨l', n', hg, _⟩)
      · have fin := H_fin.out w2 hb2
        have H_fin := Lib.hid fin; clear fin; have H_hg := Lib.hid hg; clear hg; have H_hb2 := Lib.hid hb2; clear hb2
        go_wp2_with fail
        go_ret3
        exact H_fin.out
      · rw [wholeB_nil] at hg; cases hg
  | some a =>
    by_cases hc0 : c = 0
    · subst hc0
      go_enter Try.func19, Try.ntmps19
      go_wp2_with fail
      refine wp_loop_rounds 1 ?_
      rw [rounds_succ]
      go_wp2_with fail
      all_goals
        refine (H_hcw.out _ _ _).mono ?_
        rintro e w2 (⟨hg, rfl, hb2⟩ | ⟨l', n', hg, _⟩)
        · have fin := H_fin.out w2 hb2
          have H_fin := Lib.hid fin; clear fin; have H_hg := Lib.hid hg; clear hg; have H_hb2 := Lib.hid hb2; clear hb2
          go_wp2_with fail
          go_ret3
          exact H_fin.out
        · rw [wholeB_nil] at hg; cases hg
    · go_enter Try.func19, Try.ntmps19
      go_wp2_with fail
      refine wp_loop_rounds 1 ?_
      rw [rounds_succ]
      go_wp2_with fail
      all_goals
        refine (H_hcw.out _ _ _).mono ?_
        rintro e w2 (⟨hg, rfl, hb2⟩ | ⟨l', n', hg, _⟩)
        · have fin := H_fin.out w2 hb2
          have H_fin := Lib.hid fin; clear fin; have H_hg := Lib.hid hg; clear hg; have H_hb2 := Lib.hid hb2; clear hb2
          go_wp2_with fail
          go_ret3
          exact H_fin.out
        · rw [wholeB_nil] at hg; cases hg
theorem refFrames_any (A : Option Addr) (c : Nat) (l : List Int) (w : World) (hl : IntsAt w A .u8 l) (hn2 : l.length ≤ 200000) (hcap : l.length ≤ c) (hb : ∀ i, 0 ≤ l.getD i 0 ∧ l.getD i 0 ≤ 255) :
    Calls Try.prog 19 #[.slice A l.length c] w (FrPost l w) := by
  cases l with
  | nil => exact refFrames_nil A c w
  | cons x r =>
    obtain ⟨b, off, rfl, _⟩ := hl 0 (by simp)
    exact refFrames_some b off c (x :: r) w hl hn2 hcap hb
theorem quiet_more {P : Program} {f : FuncId} {args : Array Value} {w : World} {a n : Nat} {v : Value} (h : Calls P f args (w.drewN (a + n)) fun e w' => e = .returned v ∧ ∃ m, w' = (w.drewN (a + n)).drewN m) :
    Calls P f args (w.drewN (a + n)) fun e w'' => e = .returned v ∧ ∃ m, w'' = w.drewN (a + m) :=
  h.mono fun _ _ ⟨he, m, hm⟩ => ⟨he, n + m, by rw [hm, World.drewN_drewN, Nat.add_assoc]⟩
theorem lists_ne_at {l m : List (List Int)} {k : Nat} (h : l.getD k [] ≠ m.getD k []) : ¬ l = m := fun h2 => h (by rw [h2])
def sameL (l m : List (List Int)) : Bool := l == m
theorem sameL_iff {l m : List (List Int)} : sameL l m = true ↔ l = m := by simp [sameL]
theorem lists_eq_of {l m : List (List Int)} (hl : l.length = m.length) (h : ∀ k, k < l.length → l.getD k [] = m.getD k []) : sameL l m = true := by
  rw [sameL_iff]
  apply List.ext_getElem hl
  intro i h1 h2
  have := h i h1
  simpa [List.getD_eq_getElem?_getD, h1, h2] using this
theorem sameInts_at (A B : Option Addr) (c d : Nat) (l m : List Int) (v : Bool) (hv : sameB l m = v) (w : World) (hl : IntsAt w A .i64 l) (hm : IntsAt w B .i64 m) (hn : l.length ≤ 1000000) (hn2 : m.length ≤ 1000000) :
    Calls Try.prog 17 #[.slice A l.length c, .slice B m.length d] w fun e w' => e = .returned (.bool v) ∧ ∃ q, w' = w.drewN q := by
  subst hv; exact sameInts_any A B c d l m w hl hm hn hn2

set_option maxHeartbeats 2000000 in
theorem sameLists_any (A B : Option Addr) (c d : Nat) (l m : List (List Int)) (w : World) (hl : ListsAt w A l) (hm : ListsAt w B m) (hn : l.length ≤ 1000000) (hn2 : m.length ≤ 1000000) (bl : ∀ k, (l.getD k []).length ≤ 1000000) (bm : ∀ k, (m.getD k []).length ≤ 1000000) :
    Calls Try.prog 20 #[.slice A l.length c, .slice B m.length d] w fun e w' => e = .returned (.bool (sameL l m)) ∧ ∃ q, w' = w.drewN q := by
  by_cases hne : l.length = m.length
  · have hd : ((l.length : Int) != (m.length : Int)) = false := by simp [hne]
    generalize hN : l.length = N at *
    generalize hM : m.length = M at *
    have hs := @lists_eq_of l m (by omega)
    have H_hl := Lib.hid hl; clear hl; have H_hm := Lib.hid hm; clear hm; have H_hN := Lib.hid hN; clear hN; have H_hM := Lib.hid hM; clear hM; have H_hne := Lib.hid hne; clear hne; have H_hs := Lib.hid hs; clear hs; have H_bl := Lib.hid bl; clear bl; have H_bm := Lib.hid bm; clear bm
    go_enter Try.func20, Try.ntmps20
    go_wp2
    go_loopw [5] (fun i wr => ∃ k q : Nat, k ≤ N ∧ i = .int .i64 k ∧ (∀ j, j < k → l.getD j [] = m.getD j []) ∧ wr = w.drewN q) (fun i _ => N - (intOf i).toNat)
    case atStart => exact ⟨0, 0, by omega, rfl, fun j hj => absurd hj (by omega), rfl⟩
    case round =>
      obtain ⟨k, q, hk, rfl, hall, rfl⟩ := hrel
      by_cases hlt : k < N
      · obtain ⟨b, off, Ai, ci, hA, hbs, hc, hcap, hia⟩ := H_hl.out k (by rw [H_hN.out]; exact hlt)
        obtain ⟨b2, off2, Bi, di, hA2, hbs2, hc2, hcap2, hib⟩ := H_hm.out k (by rw [H_hM.out]; have := H_hne.out; omega)
        have hltM : k < M := by have := H_hne.out; omega
        have i1 : (0 : Int) ≤ (k : Int) := by omega
        have i2 : (k : Int) < (N : Int) := by omega
        have i3 : (k : Int) < (M : Int) := by omega
        have hnx := @lists_ne_at l m k
        have bx := H_bl.out k
        have by' := H_bm.out k
        subst hA hA2
        have hnext : l.getD k [] = m.getD k [] → ∀ j, j < k + 1 → l.getD j [] = m.getD j [] := fun he j hj => by
          rcases Nat.lt_or_ge j k with h | h
          · exact hall j h
          · rw [show j = k by omega]; exact he
        generalize l.getD k [] = x at *
        generalize m.getD k [] = y at *
        by_cases hxy : x = y
        · have hcs := fun (n : Nat) => sameInts_at Ai Bi ci di x y true (sameB_iff.2 hxy) (w.drewN n) hia hib bx by'
          have H_hall := Lib.hid hall; clear hall; have H_hnext := Lib.hid hnext; clear hnext; have H_hnx := Lib.hid hnx; clear hnx; have H_hxy := Lib.hid hxy; clear hxy; have H_hcs := Lib.hid hcs; clear hcs; have H_hia := Lib.hid hia; clear hia; have H_hib := Lib.hid hib; clear hib; have H_bx := Lib.hid bx; clear bx; have H_by' := Lib.hid by'; clear by'; have H_hcap := Lib.hid hcap; clear hcap; have H_hcap2 := Lib.hid hcap2; clear hcap2
          go_wp2_with fail
          go_quiet ((go_at_call 17; exact quiet_more (H_hcs.out _)))
          go_wp2_with fail
          go_roundw
          case rel => exact ⟨k + 1, _, by omega, by go_num, H_hnext.out H_hxy.out, rfl⟩
          case measure => simp [intOf]; omega
        · have hfin : sameL l m = false := by rw [Bool.eq_false_iff]; intro h; exact hnx hxy (sameL_iff.1 h)
          have hcs := fun (n : Nat) => sameInts_at Ai Bi ci di x y false (by rw [Bool.eq_false_iff]; intro h; exact hxy (sameB_iff.1 h)) (w.drewN n) hia hib bx by'
          have H_hall := Lib.hid hall; clear hall; have H_hnext := Lib.hid hnext; clear hnext; have H_hnx := Lib.hid hnx; clear hnx; have H_hxy := Lib.hid hxy; clear hxy; have H_hcs := Lib.hid hcs; clear hcs; have H_hia := Lib.hid hia; clear hia; have H_hib := Lib.hid hib; clear hib; have H_bx := Lib.hid bx; clear bx; have H_by' := Lib.hid by'; clear by'; have H_hcap := Lib.hid hcap; clear hcap; have H_hcap2 := Lib.hid hcap2; clear hcap2; have H_hfin := Lib.hid hfin; clear hfin
          go_wp2_with fail
          go_quiet ((go_at_call 17; exact quiet_more (H_hcs.out _)))
          go_wp2_with fail
          go_ret
          exact ⟨ret_bool H_hfin.out.symm, _, rfl⟩
      · have hfin : sameL l m = true := H_hs.out fun j hj => hall j (by rw [H_hN.out] at hj; omega)
        have H_hall := Lib.hid hall; clear hall; have H_hfin := Lib.hid hfin; clear hfin
        go_wp2
        go_ret
        exact ⟨ret_bool H_hfin.out.symm, _, rfl⟩
  · have hd : ((l.length : Int) != (m.length : Int)) = true := by simp; omega
    have hz : sameL l m = false := by rw [Bool.eq_false_iff]; intro h; rw [sameL_iff] at h; exact hne (by rw [h])
    have H_hl := Lib.hid hl; clear hl; have H_hm := Lib.hid hm; clear hm; have H_hne := Lib.hid hne; clear hne; have H_hz := Lib.hid hz; clear hz
    go_enter Try.func20, Try.ntmps20
    go_wp2
    go_ret
    exact ⟨ret_bool H_hz.out.symm, 0, rfl⟩
end Go.Proofs.Ytopdgjpoknndmaa
