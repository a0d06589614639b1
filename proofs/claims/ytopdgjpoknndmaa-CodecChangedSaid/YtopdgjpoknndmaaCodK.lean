/- Contracts of package codec: whole. -/
import Derived.Test.YtopdgjpoknndmaaCodJ
import Derived.Laws.Cover3
namespace Go.Proofs.Ytopdgjpoknndmaa
set_option linter.unusedSimpArgs false
set_option linter.unusedVariables false
set_option maxRecDepth 100000
open Go.RowKit

/-- the length that the head of a frame tells -/
def lenB (b : List Int) : Nat := (b.getD 0 0 * 65536 + b.getD 1 0 * 256 + b.getD 2 0).toNat
/-- the list of the frame with which bytes begin, and how long it is -/
def wholeB (b : List Int) : Option (List Int × Nat) :=
  if b.length < 11 then none
  else if b.length < lenB b + 11 then none
  else if (b.drop (3 + lenB b)).take 8 ≠ be8 (sumB 14695981039346656037 (b.take (3 + lenB b))) then none
  else (getB ((b.take (3 + lenB b)).drop 3)).map fun l => (l, lenB b + 11)

def WholeNo (w : World) (e : Ending) (w' : World) : Prop := e = .returned (.tuple #[.slice none 0 0, .int .i64 0]) ∧ Below w.heap.size w w'
def WholePost (b : List Int) (w : World) (e : Ending) (w' : World) : Prop :=
  (wholeB b = none ∧ WholeNo w e w') ∨ ∃ l n, wholeB b = some (l, n) ∧ OwnErr 3 .i64 l (n : Nat) w e w'

theorem len_bd {l : List Int} (hb : ∀ i, 0 ≤ l.getD i 0 ∧ l.getD i 0 ≤ 255) : (lenB l : Int) = l.getD 0 0 * 65536 + l.getD 1 0 * 256 + l.getD 2 0 ∧ lenB l ≤ 16777215 := by
  have h0 := hb 0; have h1 := hb 1; have h2 := hb 2
  unfold lenB; omega

set_option maxHeartbeats 2000000 in
theorem whole_short (A : Option Addr) (c : Nat) (l : List Int) (w : World) (hn : l.length < 11) :
    Calls Try.prog 31 #[.slice A l.length c] w (WholePost l w) := by
  have fin : WholePost l w (.returned (.tuple #[.slice none 0 0, .int .i64 0])) w := .inl ⟨by simp [wholeB, hn], rfl, Below.refl _ _⟩
  have H_fin := Lib.hid fin; clear fin
  go_enter Try.func31, Try.ntmps31
  go_wp2_with fail
  go_ret2
  exact H_fin.out

set_option maxHeartbeats 2000000 in
theorem whole_cut (b off c : Nat) (l : List Int) (w : World) (hl : IntsAt w (some ⟨b, off, none⟩) .u8 l) (hn : 11 ≤ l.length) (hn2 : l.length ≤ 1000000) (hcap : l.length ≤ c) (hb : ∀ i, 0 ≤ l.getD i 0 ∧ l.getD i 0 ≤ 255) (h : l.length < lenB l + 11) :
    Calls Try.prog 31 #[.slice (some ⟨b, off, none⟩) l.length c] w (WholePost l w) := by
  have fin : ∀ q, WholePost l w (.returned (.tuple #[.slice none 0 0, .int .i64 0])) (w.drewN q) := fun q => .inl ⟨by simp [wholeB, h, show ¬ l.length < 11 by omega], rfl, below_drewN (Below.refl _ _) _⟩
  have hlb := len_bd hb
  obtain ⟨_, _, e0, hbs, c0⟩ := hl 0 (by omega)
  obtain ⟨_, _, e1, _, c1⟩ := hl 1 (by omega)
  obtain ⟨_, _, e2, _, c2⟩ := hl 2 (by omega)
  injection e0 with e0; injection e0 with e0 e0'; subst e0 e0'
  injection e1 with e1; injection e1 with e1 e1'; subst e1 e1'
  injection e2 with e2; injection e2 with e2 e2'; subst e2 e2'
  have hb0 := hb 0; have hb1 := hb 1; have hb2 := hb 2
  generalize l.getD 0 0 = x at *
  generalize l.getD 1 0 = y at *
  generalize l.getD 2 0 = z at *
  have x0 := hb0.1; have x1 := hb0.2; have y0 := hb1.1; have y1 := hb1.2; have z0 := hb2.1; have z1 := hb2.2
  rw [Nat.add_zero] at c0
  generalize hM : lenB l = M at *
  generalize hN : l.length = N at *
  have j0 : (0 : Int) < (N : Int) := by omega
  have j1 : (1 : Int) < (N : Int) := by omega
  have j2 : (2 : Int) < (N : Int) := by omega
  have em : x * 65536 + y * 256 + z = (M : Int) := hlb.1.symm
  have hM2 := hlb.2
  clear hlb
  have H_hl := Lib.hid hl; clear hl; have H_hb := Lib.hid hb; clear hb; have H_fin := Lib.hid fin; clear fin; have H_hb0 := Lib.hid hb0; clear hb0; have H_hb1 := Lib.hid hb1; clear hb1; have H_hb2 := Lib.hid hb2; clear hb2; have H_hN := Lib.hid hN; clear hN; have H_hM := Lib.hid hM; clear hM
  go_enter Try.func31, Try.ntmps31
  go_wp2_with fail
  go_quiet (fail)
  go_wp2_with fail
  go_ret2
  exact H_fin.out _

set_option maxHeartbeats 4000000 in
theorem eq8 (a0 a1 a2 a3 a4 a5 a6 a7 c0 c1 c2 c3 c4 c5 c6 c7 : Int) (w : World) :
    (Op.equalIn 10000 48 (.agg #[.int .u8 a0, .int .u8 a1, .int .u8 a2, .int .u8 a3, .int .u8 a4, .int .u8 a5, .int .u8 a6, .int .u8 a7]) (.agg #[.int .u8 c0, .int .u8 c1, .int .u8 c2, .int .u8 c3, .int .u8 c4, .int .u8 c5, .int .u8 c6, .int .u8 c7])).run Try.prog w
      = .ok ([a0, a1, a2, a3, a4, a5, a6, a7] == [c0, c1, c2, c3, c4, c5, c6, c7]) w := by
  have hu := Try.underlying5
  have ha := Try.isAgg5
  have hz := Try.sizeOf5
  have hE : ∀ (a b : Int) (w : World), (Op.equalIn 9999 5 (.int .u8 a) (.int .u8 b)).run Try.prog w = .ok (a == b) w := fun a b w => run_equalIn_int w 9998 _ _ _ a b hu
  rw [show (10000 : Nat) = 9999 + 1 from rfl]
  unfold Op.equalIn
  simp only [Sem.run_bind, run_underlying Try.underlying48, Result.andThen_ok, hz, Std.Legacy.Range.forIn_eq_forIn_range']
  simp [part, ha, hE, List.range', List.forIn_cons]
  repeat' split
  all_goals simp_all

theorem OwnInts.base_le {w : World} {base base' : Nat} {E : TypeId} {k : IntKind} {A : Option Addr} {c : Nat} {l : List Int} (h : OwnInts w base E k A c l) (hb : base' ≤ base) : OwnInts w base' E k A c l := by
  obtain ⟨h1, h2⟩ := h
  refine ⟨h1, ?_⟩
  rcases h2 with h2 | ⟨g, cap, cur, hv, hg, hr⟩
  · exact .inl h2
  · exact .inr ⟨g, cap, cur, hv, by omega, hr⟩
theorem codGet_at (A : Option Addr) (c n : Nat) (l : List Int) (hln : l.length = n) (w : World) (hl : IntsAt w A .u8 l) (hn : n ≤ 1000000) (hcap : n ≤ c) (hb : ∀ i, 0 ≤ l.getD i 0 ∧ l.getD i 0 ≤ 255) :
    Calls Try.prog 15 #[.slice A n c] w (GetPost l w) := by subst hln; exact codGet_any A c l w hl hn hcap hb
theorem ret_slice_int {A : Option Addr} {n c : Nat} {x y : Int} (h : x = y) : Ending.returned (.tuple #[.slice A n c, .int .i64 x]) = .returned (.tuple #[.slice A n c, .int .i64 y]) := by rw [h]

/-- the eight bytes that stand at a place -/
theorem eight {l : List Int} {p : Nat} (h : p + 8 ≤ l.length) : (l.drop p).take 8 = [l.getD p 0, l.getD (p + 1) 0, l.getD (p + 2) 0, l.getD (p + 3) 0, l.getD (p + 4) 0, l.getD (p + 5) 0, l.getD (p + 6) 0, l.getD (p + 7) 0] := by
  apply List.ext_getElem?
  intro i
  match i with
  | 0 => simp [List.getElem?_take, List.getElem?_drop, List.getD_eq_getElem?_getD, show p < l.length by omega]
  | 1 => simp [List.getElem?_take, List.getElem?_drop, List.getD_eq_getElem?_getD, show p + 1 < l.length by omega]
  | 2 => simp [List.getElem?_take, List.getElem?_drop, List.getD_eq_getElem?_getD, show p + 2 < l.length by omega]
  | 3 => simp [List.getElem?_take, List.getElem?_drop, List.getD_eq_getElem?_getD, show p + 3 < l.length by omega]
  | 4 => simp [List.getElem?_take, List.getElem?_drop, List.getD_eq_getElem?_getD, show p + 4 < l.length by omega]
  | 5 => simp [List.getElem?_take, List.getElem?_drop, List.getD_eq_getElem?_getD, show p + 5 < l.length by omega]
  | 6 => simp [List.getElem?_take, List.getElem?_drop, List.getD_eq_getElem?_getD, show p + 6 < l.length by omega]
  | 7 => simp [List.getElem?_take, List.getElem?_drop, List.getD_eq_getElem?_getD, show p + 7 < l.length by omega]
  | j + 8 => simp [List.getElem?_take]; omega
theorem IntsAt.at_ {w : World} {b off : Nat} {k : IntKind} {l : List Int} (h : IntsAt w (some ⟨b, off, none⟩) k l) {i : Nat} (hi : i < l.length) : b < w.heap.size ∧ w.cell? ⟨b, off + i, none⟩ = some (.int k (l.getD i 0)) := by
  obtain ⟨b', off', e, hb, hc⟩ := h i hi
  injection e with e
  injection e with e1 e2
  subst e1 e2
  exact ⟨hb, hc⟩

set_option maxHeartbeats 4000000 in
theorem whole_long (b off c : Nat) (l : List Int) (w : World) (hl : IntsAt w (some ⟨b, off, none⟩) .u8 l) (hn : 11 ≤ l.length) (hn2 : l.length ≤ 1000000) (hcap : l.length ≤ c) (hb : ∀ i, 0 ≤ l.getD i 0 ∧ l.getD i 0 ≤ 255) (h : lenB l + 11 ≤ l.length) :
    Calls Try.prog 31 #[.slice (some ⟨b, off, none⟩) l.length c] w (WholePost l w) := by
  have hw : wholeB l = if (l.drop (3 + lenB l)).take 8 ≠ be8 (sumB 14695981039346656037 (l.take (3 + lenB l))) then none else (getB ((l.take (3 + lenB l)).drop 3)).map fun m => (m, lenB l + 11) := by
    rw [wholeB, if_neg (by omega), if_neg (by omega)]
  have q0 := (hl.at_ (i := 3 + lenB l) (by omega)).2
  have q1 := (hl.at_ (i := 3 + lenB l + 1) (by omega)).2
  have q2 := (hl.at_ (i := 3 + lenB l + 2) (by omega)).2
  have q3 := (hl.at_ (i := 3 + lenB l + 3) (by omega)).2
  have q4 := (hl.at_ (i := 3 + lenB l + 4) (by omega)).2
  have q5 := (hl.at_ (i := 3 + lenB l + 5) (by omega)).2
  have q6 := (hl.at_ (i := 3 + lenB l + 6) (by omega)).2
  have q7 := (hl.at_ (i := 3 + lenB l + 7) (by omega)).2
  rw [eight (show 3 + lenB l + 8 ≤ l.length by omega)] at hw
  rw [← Nat.add_assoc] at q1 q2 q3 q4 q5 q6 q7
  generalize l.getD (3 + lenB l) 0 = g0 at *
  generalize l.getD (3 + lenB l + 1) 0 = g1 at *
  generalize l.getD (3 + lenB l + 2) 0 = g2 at *
  generalize l.getD (3 + lenB l + 3) 0 = g3 at *
  generalize l.getD (3 + lenB l + 4) 0 = g4 at *
  generalize l.getD (3 + lenB l + 5) 0 = g5 at *
  generalize l.getD (3 + lenB l + 6) 0 = g6 at *
  generalize l.getD (3 + lenB l + 7) 0 = g7 at *
  have hlb := len_bd hb
  obtain ⟨_, _, e0, hbs, c0⟩ := hl 0 (by omega)
  obtain ⟨_, _, e1, _, c1⟩ := hl 1 (by omega)
  obtain ⟨_, _, e2, _, c2⟩ := hl 2 (by omega)
  injection e0 with e0; injection e0 with e0 e0'; subst e0 e0'
  injection e1 with e1; injection e1 with e1 e1'; subst e1 e1'
  injection e2 with e2; injection e2 with e2 e2'; subst e2 e2'
  have hb0 := hb 0; have hb1 := hb 1; have hb2 := hb 2
  generalize l.getD 0 0 = x at *
  generalize l.getD 1 0 = y at *
  generalize l.getD 2 0 = z at *
  have x0 := hb0.1; have x1 := hb0.2; have y0 := hb1.1; have y1 := hb1.2; have z0 := hb2.1; have z1 := hb2.2
  rw [Nat.add_zero] at c0
  generalize hM : lenB l = M at *
  generalize hN : l.length = N at *
  have j0 : (0 : Int) < (N : Int) := by omega
  have j1 : (1 : Int) < (N : Int) := by omega
  have j2 : (2 : Int) < (N : Int) := by omega
  have em : x * 65536 + y * 256 + z = (M : Int) := hlb.1.symm
  have hM2 := hlb.2
  clear hlb
  have hT := hl.take (3 + M)
  have hTl : (l.take (3 + M)).length = 3 + M := by rw [List.length_take, hN]; omega
  have hTb : ∀ i, 0 ≤ (l.take (3 + M)).getD i 0 ∧ (l.take (3 + M)).getD i 0 ≤ 255 := bytes_getD fun v hv => mem_bytes hb v (List.mem_of_mem_take hv)
  generalize hTd : l.take (3 + M) = T at *
  generalize hD : sumB 14695981039346656037 T = D at *
  have hcs := fun W (hW : IntsAt W (some ⟨b, off, none⟩) .u8 T) => sum_any (some ⟨b, off, none⟩) (3 + M) T W hW (by rw [hTl]; omega) hTb D hD
  rw [hTl] at hcs
  rw [be8_eq] at hw
  by_cases heq : [g0, g1, g2, g3, g4, g5, g6, g7] = [b8 D 0, b8 D 1, b8 D 2, b8 D 3, b8 D 4, b8 D 5, b8 D 6, b8 D 7]
  · rw [if_neg (by rw [heq]; simp)] at hw
    have h8 : ∀ W, (Op.equalIn 10000 48 (.agg #[.int .u8 (b8 D 0), .int .u8 (b8 D 1), .int .u8 (b8 D 2), .int .u8 (b8 D 3), .int .u8 (b8 D 4), .int .u8 (b8 D 5), .int .u8 (b8 D 6), .int .u8 (b8 D 7)]) (.agg #[.int .u8 g0, .int .u8 g1, .int .u8 g2, .int .u8 g3, .int .u8 g4, .int .u8 g5, .int .u8 g6, .int .u8 g7])).run Try.prog W = .ok true W := fun W => by
      rw [eq8, heq]; simp
    have hlast : ∀ l' A' c' W W2, getB (T.drop 3) = some l' → Below w.heap.size w W → OwnInts W2 W.heap.size 3 .i64 A' c' l' → Below W.heap.size W W2 → WholePost l w (.returned (.tuple #[.slice A' l'.length c', .int .i64 (3 + (M : Int) + 8)])) W2 := fun l' A' c' W W2 hg hW ho hW2 =>
      .inr ⟨l', M + 11, by rw [hw, hg]; rfl, A', c', ret_slice_int (by omega), ho.base_le hW.size, hW.trans (hW2.mono hW.size)⟩
    have hfinN : ∀ W W2, getB (T.drop 3) = none → Below w.heap.size w W → Below W.heap.size W W2 → WholePost l w (.returned (.tuple #[.slice none 0 0, .int .i64 0])) W2 := fun W W2 hg hW hW2 =>
      .inl ⟨by rw [hw, hg]; rfl, rfl, hW.trans (hW2.mono hW.size)⟩
    have hTd3 : ∀ i, 0 ≤ (T.drop 3).getD i 0 ∧ (T.drop 3).getD i 0 ≤ 255 := getD_drop hTb 3
    have hTl3 : (T.drop 3).length = M := by rw [List.length_drop, hTl]; omega
    clear heq
    by_cases hM0 : M = 0
    · have hget := fun (W : World) => codGet_at (some ⟨b, off, none⟩) 0 0 (T.drop 3) (by rw [hTl3, hM0]) W (IntsAt.empty (List.drop_eq_nil_of_le (by rw [hTl]; omega))) (by omega) (by omega) hTd3
      have H_hTd3 := Lib.hid hTd3; clear hTd3; have H_hTl3 := Lib.hid hTl3; clear hTl3; have H_hM0 := Lib.hid hM0; clear hM0
      have H_hl := Lib.hid hl; clear hl; have H_hb := Lib.hid hb; clear hb; have H_hb0 := Lib.hid hb0; clear hb0; have H_hb1 := Lib.hid hb1; clear hb1; have H_hb2 := Lib.hid hb2; clear hb2; have H_hN := Lib.hid hN; clear hN; have H_hM := Lib.hid hM; clear hM; have H_hw := Lib.hid hw; clear hw; have H_hT := Lib.hid hT; clear hT; have H_hTl := Lib.hid hTl; clear hTl; have H_hTb := Lib.hid hTb; clear hTb; have H_hTd := Lib.hid hTd; clear hTd; have H_hD := Lib.hid hD; clear hD; have H_hcs := Lib.hid hcs; clear hcs; have H_hget := Lib.hid hget; clear hget; have H_hlast := Lib.hid hlast; clear hlast; have H_hfinN := Lib.hid hfinN; clear hfinN
      go_enter Try.func31, Try.ntmps31
      go_wp2_with fail
      go_quiet (fail)
      go_wp2_with fail
      have haa : ∀ (W : World) (a : Option Addr) (cp : Nat), (Instr.arrayAt 48 (.slice a 8 cp)).run Try.prog W = .ok (.pointer a) W := fun W a cp => run_arrayAt (w := W) _ _ 8 a 8 cp Try.underlying48 (by decide)
      have r1 : (0 : Int) ≤ 3 + (M : Int) := by omega
      have r2 : 3 + (M : Int) ≤ 3 + (M : Int) + 8 := by omega
      have r3 : 3 + (M : Int) + 8 ≤ (c : Int) := by omega
      have r4 : ¬ c = 3 + M := by omega
      have r5 : (3 + (M : Int)).toNat = 3 + M := by omega
      have r6 : (3 + (M : Int) + 8).toNat = 3 + M + 8 := by omega
      have r7 : IntKind.i64.wrap (3 + (M : Int) + 8) = 3 + (M : Int) + 8 := IntWalk.i64_in _ (by omega)
      have r8 : 3 + M + 8 - (3 + M) = 8 := by omega
      go_region_held3 (fun W => (∀ b o, b < w.heap.size → W.cell? ⟨b, o, none⟩ = w.cell? ⟨b, o, none⟩) ∧ Below w.heap.size w W) (first | (refine ext_mk ?_; (repeat (first | with_reducible exact Below.refl _ _ | with_reducible exact Nat.le_refl _ | with_reducible assumption | with_reducible refine Below.drew ?_ | with_reducible refine below_drewN ?_ _ | with_reducible refine Below.alloc ?_ ?_ _ | with_reducible refine Below.setCell ?_ ?_ _ | with_reducible exact And.right (by assumption) | with_reducible refine Below.trans ?_ (Below.mono (by assumption) ?_) | with_reducible exact Below.size (And.right (by assumption)) | (focus omega) | (focus (simp; done)) | (focus (simp; omega)) | (focus (simp at *; omega)))))) (first | (go_at_call 25; refine (H_hcs.out _ ?_).mono ?_; (focus (first | exact (H_hT.out.below (And.right (by assumption))))); rintro e w1 ⟨rfl, hb1⟩))
      all_goals
        have hM3 : 3 + M = 3 := by have := H_hM0.out; omega
        have hbw1 : Below w.heap.size w w1 := And.right (by assumption)
        go_wp2_with fail
        refine (H_hget.out w1).mono ?_
        clear hM3
        rintro e w2 (⟨hg, rfl, hb2⟩ | ⟨l', hg, A', c', rfl, ho2, hb2⟩)
        · have fin := H_hfinN.out w1 w2 hg hbw1 hb2
          have H_fin := Lib.hid fin; clear fin; have H_hg := Lib.hid hg; clear hg; have H_hb2 := Lib.hid hb2; clear hb2
          go_wp2_with fail
          go_ret2
          exact H_fin.out
        · have fin := H_hlast.out l' A' c' w1 w2 hg hbw1 ho2 hb2
          have H_fin := Lib.hid fin; clear fin; have H_hg := Lib.hid hg; clear hg; have H_ho2 := Lib.hid ho2; clear ho2; have H_hb2 := Lib.hid hb2; clear hb2
          go_wp2_with fail
          go_ret2
          exact H_fin.out
    · have hget := fun (W : World) (hW : IntsAt W (some ⟨b, off, none⟩) .u8 T) => codGet_at (some ⟨b, off + 3, none⟩) M M (T.drop 3) hTl3 W (hW.drop 3) (by omega) (by omega) hTd3
      have H_hTd3 := Lib.hid hTd3; clear hTd3; have H_hTl3 := Lib.hid hTl3; clear hTl3; have H_hM0 := Lib.hid hM0; clear hM0
      have H_hl := Lib.hid hl; clear hl; have H_hb := Lib.hid hb; clear hb; have H_hb0 := Lib.hid hb0; clear hb0; have H_hb1 := Lib.hid hb1; clear hb1; have H_hb2 := Lib.hid hb2; clear hb2; have H_hN := Lib.hid hN; clear hN; have H_hM := Lib.hid hM; clear hM; have H_hw := Lib.hid hw; clear hw; have H_hT := Lib.hid hT; clear hT; have H_hTl := Lib.hid hTl; clear hTl; have H_hTb := Lib.hid hTb; clear hTb; have H_hTd := Lib.hid hTd; clear hTd; have H_hD := Lib.hid hD; clear hD; have H_hcs := Lib.hid hcs; clear hcs; have H_hget := Lib.hid hget; clear hget; have H_hlast := Lib.hid hlast; clear hlast; have H_hfinN := Lib.hid hfinN; clear hfinN
      go_enter Try.func31, Try.ntmps31
      go_wp2_with fail
      go_quiet (fail)
      go_wp2_with fail
      have haa : ∀ (W : World) (a : Option Addr) (cp : Nat), (Instr.arrayAt 48 (.slice a 8 cp)).run Try.prog W = .ok (.pointer a) W := fun W a cp => run_arrayAt (w := W) _ _ 8 a 8 cp Try.underlying48 (by decide)
      have r1 : (0 : Int) ≤ 3 + (M : Int) := by omega
      have r2 : 3 + (M : Int) ≤ 3 + (M : Int) + 8 := by omega
      have r3 : 3 + (M : Int) + 8 ≤ (c : Int) := by omega
      have r4 : ¬ c = 3 + M := by omega
      have r5 : (3 + (M : Int)).toNat = 3 + M := by omega
      have r6 : (3 + (M : Int) + 8).toNat = 3 + M + 8 := by omega
      have r7 : IntKind.i64.wrap (3 + (M : Int) + 8) = 3 + (M : Int) + 8 := IntWalk.i64_in _ (by omega)
      have r8 : 3 + M + 8 - (3 + M) = 8 := by omega
      go_region_held3 (fun W => (∀ b o, b < w.heap.size → W.cell? ⟨b, o, none⟩ = w.cell? ⟨b, o, none⟩) ∧ Below w.heap.size w W) (first | (refine ext_mk ?_; (repeat (first | with_reducible exact Below.refl _ _ | with_reducible exact Nat.le_refl _ | with_reducible assumption | with_reducible refine Below.drew ?_ | with_reducible refine below_drewN ?_ _ | with_reducible refine Below.alloc ?_ ?_ _ | with_reducible refine Below.setCell ?_ ?_ _ | with_reducible exact And.right (by assumption) | with_reducible refine Below.trans ?_ (Below.mono (by assumption) ?_) | with_reducible exact Below.size (And.right (by assumption)) | (focus omega) | (focus (simp; done)) | (focus (simp; omega)) | (focus (simp at *; omega)))))) (first | (go_at_call 25; refine (H_hcs.out _ ?_).mono ?_; (focus (first | exact (H_hT.out.below (And.right (by assumption))))); rintro e w1 ⟨rfl, hb1⟩))
      all_goals
        have hM3 : ¬ 3 + M = 3 := by have := H_hM0.out; omega
        have hM4 : 3 ≤ 3 + M := by omega
        have hbw1 : Below w.heap.size w w1 := And.right (by assumption)
        go_wp2_with fail
        refine (H_hget.out w1 (H_hT.out.below hbw1)).mono ?_
        clear hM3
        rintro e w2 (⟨hg, rfl, hb2⟩ | ⟨l', hg, A', c', rfl, ho2, hb2⟩)
        · have fin := H_hfinN.out w1 w2 hg hbw1 hb2
          have H_fin := Lib.hid fin; clear fin; have H_hg := Lib.hid hg; clear hg; have H_hb2 := Lib.hid hb2; clear hb2
          go_wp2_with fail
          go_ret2
          exact H_fin.out
        · have fin := H_hlast.out l' A' c' w1 w2 hg hbw1 ho2 hb2
          have H_fin := Lib.hid fin; clear fin; have H_hg := Lib.hid hg; clear hg; have H_ho2 := Lib.hid ho2; clear ho2; have H_hb2 := Lib.hid hb2; clear hb2
          go_wp2_with fail
          go_ret2
          exact H_fin.out
  · rw [if_pos heq] at hw
    have h8 : ∀ W, (Op.equalIn 10000 48 (.agg #[.int .u8 (b8 D 0), .int .u8 (b8 D 1), .int .u8 (b8 D 2), .int .u8 (b8 D 3), .int .u8 (b8 D 4), .int .u8 (b8 D 5), .int .u8 (b8 D 6), .int .u8 (b8 D 7)]) (.agg #[.int .u8 g0, .int .u8 g1, .int .u8 g2, .int .u8 g3, .int .u8 g4, .int .u8 g5, .int .u8 g6, .int .u8 g7])).run Try.prog W = .ok false W := fun W => by
      rw [eq8]; congr 1; rw [beq_eq_false_iff_ne]; exact fun e => heq e.symm
    have fin : ∀ W, Below w.heap.size w W → WholePost l w (.returned (.tuple #[.slice none 0 0, .int .i64 0])) W := fun W hW => .inl ⟨hw, rfl, hW⟩
    have H_heq := Lib.hid heq; clear heq; have H_fin := Lib.hid fin; clear fin
    have H_hl := Lib.hid hl; clear hl; have H_hb := Lib.hid hb; clear hb; have H_hb0 := Lib.hid hb0; clear hb0; have H_hb1 := Lib.hid hb1; clear hb1; have H_hb2 := Lib.hid hb2; clear hb2; have H_hN := Lib.hid hN; clear hN; have H_hM := Lib.hid hM; clear hM; have H_hw := Lib.hid hw; clear hw; have H_hT := Lib.hid hT; clear hT; have H_hTl := Lib.hid hTl; clear hTl; have H_hTb := Lib.hid hTb; clear hTb; have H_hTd := Lib.hid hTd; clear hTd; have H_hD := Lib.hid hD; clear hD; have H_hcs := Lib.hid hcs; clear hcs
    go_enter Try.func31, Try.ntmps31
    go_wp2_with fail
    go_quiet (fail)
    go_wp2_with fail
    have haa : ∀ (W : World) (a : Option Addr) (cp : Nat), (Instr.arrayAt 48 (.slice a 8 cp)).run Try.prog W = .ok (.pointer a) W := fun W a cp => run_arrayAt (w := W) _ _ 8 a 8 cp Try.underlying48 (by decide)
    have r1 : (0 : Int) ≤ 3 + (M : Int) := by omega
    have r2 : 3 + (M : Int) ≤ 3 + (M : Int) + 8 := by omega
    have r3 : 3 + (M : Int) + 8 ≤ (c : Int) := by omega
    have r4 : ¬ c = 3 + M := by omega
    have r5 : (3 + (M : Int)).toNat = 3 + M := by omega
    have r6 : (3 + (M : Int) + 8).toNat = 3 + M + 8 := by omega
    have r7 : IntKind.i64.wrap (3 + (M : Int) + 8) = 3 + (M : Int) + 8 := IntWalk.i64_in _ (by omega)
    have r8 : 3 + M + 8 - (3 + M) = 8 := by omega
    go_region_held3 (fun W => (∀ b o, b < w.heap.size → W.cell? ⟨b, o, none⟩ = w.cell? ⟨b, o, none⟩) ∧ Below w.heap.size w W) (first | (refine ext_mk ?_; (repeat (first | with_reducible exact Below.refl _ _ | with_reducible exact Nat.le_refl _ | with_reducible assumption | with_reducible refine Below.drew ?_ | with_reducible refine below_drewN ?_ _ | with_reducible refine Below.alloc ?_ ?_ _ | with_reducible refine Below.setCell ?_ ?_ _ | with_reducible exact And.right (by assumption) | with_reducible refine Below.trans ?_ (Below.mono (by assumption) ?_) | with_reducible exact Below.size (And.right (by assumption)) | (focus omega) | (focus (simp; done)) | (focus (simp; omega)) | (focus (simp at *; omega)))))) (first | (go_at_call 25; refine (H_hcs.out _ ?_).mono ?_; (focus (first | exact (H_hT.out.below (And.right (by assumption))))); rintro e w1 ⟨rfl, hb1⟩))
    all_goals
      go_wp2_with fail
      go_ret2
      exact H_fin.out _ (And.right (by assumption))
end Go.Proofs.Ytopdgjpoknndmaa
