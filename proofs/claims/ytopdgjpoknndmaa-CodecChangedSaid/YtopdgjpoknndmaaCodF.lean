/- Contracts of package codec: Get. -/
import Derived.Test.YtopdgjpoknndmaaCodE
import Derived.Deep.RegionLaw
import Derived.RegionDies
namespace Go.Proofs.Ytopdgjpoknndmaa
set_option linter.unusedSimpArgs false
set_option linter.unusedVariables false
set_option maxRecDepth 100000
open Go.RowKit

theorem infoI64 : (Try.prog.info? 3).map (fun i => (i.zero, i.size, i.bytes)) = some (some (.int .i64 0), 1, 8) := by kernel_rfl

/-- what Get leaves -/
def GetPost (l : List Int) (w : World) (e : Ending) (w' : World) : Prop :=
  (getB l = none ∧ GetNo w e w') ∨ ∃ l', getB l = some l' ∧ OwnErr 3 .i64 l' 0 w e w'

theorem door_panic {R : Ending → World → Prop} {W : World} {t : Array Value} {h : Nat} {x : Value} {y : Int} (h2 : t.getD 2 undef = .pointer (some ⟨h, 0, none⟩)) (h3 : t.getD 3 undef = .pointer (some ⟨h + 1, 0, none⟩))
    (c0 : W.cell? ⟨h, 0, none⟩ = some x) (f0 : W.frozen? ⟨h, 0, none⟩ = false) (c1 : W.cell? ⟨h + 1, 0, none⟩ = some (.int .i64 y)) (f1 : W.frozen? ⟨h + 1, 0, none⟩ = false)
    (hR : ∀ W', Below h W W' → R (.returned (.tuple #[.slice none 0 0, .int .i64 7])) W') :
    bodyPostD Try.prog Try.f15 R (Exit.panic [{ v := .iface 65 (.agg #[]), recovered := false }]) ⟨t, [{ target := Target.fn (Fn.func 28) #[], args := #[.pointer (some ⟨h, 0, none⟩), .pointer (some ⟨h + 1, 0, none⟩)] }]⟩ W := by
  have l0 : h < W.heap.size := World.block_lt_of_cell? W _ c0
  have l1 : h + 1 < W.heap.size := World.block_lt_of_cell? W _ c1
  refine leaves_cons (f := 28) (args := #[.pointer (some ⟨h, 0, none⟩), .pointer (some ⟨h + 1, 0, none⟩)]) (by simp) (by simp [go_sem]) ?_
  refine (caught_panicking h (h + 1) x y [] _ c0 f0 c1 f1 (by omega)).mono ?_
  rintro e u' w'' ⟨rfl, rfl, rfl⟩
  have h2' : t[2]?.getD undef = .pointer (some ⟨h, 0, none⟩) := by simpa [Array.getD_eq_getD_getElem?] using h2
  have h3' : t[3]?.getD undef = .pointer (some ⟨h + 1, 0, none⟩) := by simpa [Array.getD_eq_getD_getElem?] using h3
  simp [Leaves, settle, results, Try.results15, go_sem, h2', h3', c0, c1, l0, l1]
  exact hR _ (by (repeat (first | with_reducible exact Below.refl _ _ | with_reducible exact Nat.le_refl _ | with_reducible assumption | with_reducible refine Below.drew ?_ | with_reducible refine below_drewN ?_ _ | with_reducible refine Below.alloc ?_ ?_ _ | with_reducible refine Below.setCell ?_ ?_ _ | with_reducible exact And.right (by assumption) | with_reducible refine Below.trans ?_ (Below.mono (by assumption) ?_) | with_reducible exact Below.size (And.right (by assumption)) | (focus omega) | (focus (simp; done)) | (focus (simp; omega)) | (focus (simp at *; omega)))))
theorem door_ret {R : Ending → World → Prop} {W : World} {t : Array Value} {h : Nat} {x : Value} {y : Int} (h2 : t.getD 2 undef = .pointer (some ⟨h, 0, none⟩)) (h3 : t.getD 3 undef = .pointer (some ⟨h + 1, 0, none⟩))
    (c0 : W.cell? ⟨h, 0, none⟩ = some x) (c1 : W.cell? ⟨h + 1, 0, none⟩ = some (.int .i64 y))
    (hR : R (.returned (.tuple #[x, .int .i64 y])) W) :
    bodyPostD Try.prog Try.f15 R Exit.ret ⟨t, [{ target := Target.fn (Fn.func 28) #[], args := #[.pointer (some ⟨h, 0, none⟩), .pointer (some ⟨h + 1, 0, none⟩)] }]⟩ W := by
  refine leaves_cons (f := 28) (args := #[.pointer (some ⟨h, 0, none⟩), .pointer (some ⟨h + 1, 0, none⟩)]) (by simp) (by simp [go_sem]) ?_
  refine (caught_idle _ _ _).mono ?_
  rintro e u' w'' ⟨rfl, rfl, rfl⟩
  have h2' : t[2]?.getD undef = .pointer (some ⟨h, 0, none⟩) := by simpa [Array.getD_eq_getD_getElem?] using h2
  have h3' : t[3]?.getD undef = .pointer (some ⟨h + 1, 0, none⟩) := by simpa [Array.getD_eq_getD_getElem?] using h3
  simp [Leaves, settle, results, Try.results15, go_sem, h2', h3', c0, c1]
  exact hR

/-- the state of Get's loop -/
structure GetInv (l : List Int) (K : Nat) (w : World) (k : Nat) (acc rest : List Int) (L A : Option Addr) (d c : Nat) (wr : World) : Prop where
  hk : k ≤ K
  c0 : wr.cell? ⟨w.heap.size, 0, none⟩ = some (.slice L acc.length d)
  f0 : wr.frozen? ⟨w.heap.size, 0, none⟩ = false
  c1 : wr.cell? ⟨w.heap.size + 1, 0, none⟩ = some (.int .i64 0)
  f1 : wr.frozen? ⟨w.heap.size + 1, 0, none⟩ = false
  c2 : wr.cell? ⟨w.heap.size + 2, 0, none⟩ = some (.slice A rest.length c)
  f2 : wr.frozen? ⟨w.heap.size + 2, 0, none⟩ = false
  ints : IntsAt w A .u8 rest
  cap : rest.length ≤ c
  len : rest.length ≤ 1000000
  bytes : ∀ i, 0 ≤ rest.getD i 0 ∧ rest.getD i 0 ≤ 255
  own : OwnInts wr (w.heap.size + 3) 3 .i64 L d acc
  below : Below w.heap.size w wr
  size : w.heap.size + 3 ≤ wr.heap.size
  alen : acc.length = k
  val : getB l = (getL (K - k) rest).map (acc ++ ·)

theorem getD_drop {l : List Int} (h : ∀ i, 0 ≤ l.getD i 0 ∧ l.getD i 0 ≤ 255) (n : Nat) : ∀ i, 0 ≤ (l.drop n).getD i 0 ∧ (l.drop n).getD i 0 ≤ 255 := fun i => by
  have := h (n + i)
  simpa [List.getD_eq_getElem?_getD, List.getElem?_drop] using this

theorem inv_step {l : List Int} {K : Nat} {w : World} {k : Nat} {acc rest : List Int} {L A : Option Addr} {d c : Nat} {wr : World} (inv : GetInv l K w k acc rest L A d c wr) {u n : Nat} (hrd : rd 0 0 rest = some (u, n)) (hlt : k < K)
    {A2 : Option Addr} {c2 : Nat} (hc2 : (rest.drop n).length ≤ c2) (hi2 : ∀ W, IntsAt W A .u8 rest → IntsAt W A2 .u8 (rest.drop n))
    {L' : Option Addr} {d' : Nat} {w3 : World} {o : Obj} (ho3 : OwnInts w3 (w.heap.size + 3) 3 .i64 L' d' (acc ++ [uz u])) (hg4 : ((wr.setCell ⟨w.heap.size + 2, 0, none⟩ (.slice A2 (rest.length - n) c2)).alloc o).drew.grownBy w3 (blockOf L)) :
    GetInv l K w (k + 1) (acc ++ [uz u]) (rest.drop n) L' A2 d' c2 (w3.setCell ⟨w.heap.size, 0, none⟩ (.slice L' (acc.length + 1) d')) := by
  have hsz := inv.size
  have hg3 : ((wr.setCell ⟨w.heap.size + 2, 0, none⟩ (.slice A2 (rest.drop n).length c2)).alloc o).grownBy w3 (blockOf L) := by
    rw [List.length_drop]; exact ⟨hg4.os, hg4.tape, hg4.output, hg4.size, hg4.block⟩
  have hL : ∀ g, blockOf L = some g → w.heap.size + 3 ≤ g := fun g hg => (inv.own.lt g hg).1
  have hs3 : wr.heap.size + 1 ≤ w3.heap.size := by have := hg3.size; simpa using this
  have low : ∀ p : Addr, p.block < w.heap.size + 3 → w3.cell? p = (wr.setCell ⟨w.heap.size + 2, 0, none⟩ (.slice A2 (rest.drop n).length c2)).cell? p ∧ w3.frozen? p = (wr.setCell ⟨w.heap.size + 2, 0, none⟩ (.slice A2 (rest.drop n).length c2)).frozen? p := fun p hp => by
    have hne : some p.block ≠ blockOf L := fun e => by have := hL _ e.symm; omega
    refine ⟨(hg3.cell_far p (by simp; omega) hne).trans (World.cell?_alloc_lt _ _ _ (by simp; omega)), (hg3.frozen_far p (by simp; omega) hne).trans ?_⟩
    exact World.frozen?_of_block (Below.heap_alloc _ _ _ (by simp; omega))
  have other : ∀ p q : Addr, p.block ≠ q.block → ∀ v, (w3.setCell p v).cell? q = w3.cell? q ∧ (w3.setCell p v).frozen? q = w3.frozen? q := fun p q h v =>
    ⟨World.cell?_setCell_other w3 p q v (fun e => h (by rw [e])), World.frozen?_of_block (Below.heap_setCell w3 p v q.block (fun e => h e.symm))⟩
  have oth2 : ∀ p q : Addr, p.block ≠ q.block → ∀ v, (wr.setCell p v).cell? q = wr.cell? q ∧ (wr.setCell p v).frozen? q = wr.frozen? q := fun p q h v =>
    ⟨World.cell?_setCell_other wr p q v (fun e => h (by rw [e])), World.frozen?_of_block (Below.heap_setCell wr p v q.block (fun e => h e.symm))⟩
  have e0 := (low ⟨w.heap.size, 0, none⟩ (by show w.heap.size < _; omega))
  have e1 := (low ⟨w.heap.size + 1, 0, none⟩ (by show w.heap.size + 1 < _; omega))
  have e2 := (low ⟨w.heap.size + 2, 0, none⟩ (by show w.heap.size + 2 < _; omega))
  have x0 := oth2 ⟨w.heap.size + 2, 0, none⟩ ⟨w.heap.size, 0, none⟩ (by show w.heap.size + 2 ≠ w.heap.size; omega) (.slice A2 (rest.drop n).length c2)
  have x1 := oth2 ⟨w.heap.size + 2, 0, none⟩ ⟨w.heap.size + 1, 0, none⟩ (by show w.heap.size + 2 ≠ w.heap.size + 1; omega) (.slice A2 (rest.drop n).length c2)
  have y1 := other ⟨w.heap.size, 0, none⟩ ⟨w.heap.size + 1, 0, none⟩ (by show w.heap.size ≠ w.heap.size + 1; omega) (.slice L' (acc.length + 1) d')
  have y2 := other ⟨w.heap.size, 0, none⟩ ⟨w.heap.size + 2, 0, none⟩ (by show w.heap.size ≠ w.heap.size + 2; omega) (.slice L' (acc.length + 1) d')
  have c0 : w3.cell? ⟨w.heap.size, 0, none⟩ = some (.slice L acc.length d) := by rw [e0.1, x0.1]; exact inv.c0
  have f0 : w3.frozen? ⟨w.heap.size, 0, none⟩ = false := by rw [e0.2, x0.2]; exact inv.f0
  have hbw3 : Below w.heap.size w w3 := by
    have h1 : Below w.heap.size w ((wr.setCell ⟨w.heap.size + 2, 0, none⟩ (.slice A2 (rest.drop n).length c2)).alloc o) :=
      (inv.below.setCell (by show w.heap.size ≤ w.heap.size + 2; omega) _).alloc (by simp; omega) o
    exact h1.grown hg3 (by simp; omega) fun g hg => by have := hL g hg; omega
  refine ⟨by omega, ?_, ?_, ?_, ?_, ?_, ?_, hi2 w inv.ints, hc2, by have := inv.len; simp; omega, getD_drop inv.bytes n, ?_, ?_, by simp; omega, by simp [inv.alen], ?_⟩
  · rw [World.cell?_setCell_same w3 _ _ c0]; simp
  · rw [World.frozen?_setCell]; exact f0
  · rw [y1.1, e1.1, x1.1]; exact inv.c1
  · rw [y1.2, e1.2, x1.2]; exact inv.f1
  · rw [y2.1, e2.1]; exact World.cell?_setCell_same wr _ _ inv.c2
  · rw [y2.2, e2.2, World.frozen?_setCell]; exact inv.f2
  · exact ho3.set (by show w.heap.size < _; omega) _
  · exact hbw3.setCell (Nat.le_refl _) _
  · rw [inv.val, show K - k = (K - (k + 1)) + 1 by omega, getL, hrd]
    simp [Option.map_map, Function.comp_def]

theorem get_own {w0 w : World} {m : Nat} {E : TypeId} {k : IntKind} {A : Option Addr} {c : Nat} {l : List Int} (h : OwnInts w (w0.heap.size + m) E k A c l) : OwnInts w w0.heap.size E k A c l := by
  obtain ⟨h1, h2⟩ := h
  refine ⟨h1, ?_⟩
  rcases h2 with h2 | ⟨g, cap, cur, hv, hb, hr⟩
  · exact .inl h2
  · exact .inr ⟨g, cap, cur, hv, by omega, hr⟩

set_option maxHeartbeats 2000000 in
theorem get_loop (A : Option Addr) (c : Nat) (l : List Int) (w : World) (hl : IntsAt w A .u8 l) (hn : l.length ≤ 1000000) (hcap : l.length ≤ c) (hb : ∀ i, 0 ≤ l.getD i 0 ∧ l.getD i 0 ≤ 255) (u n : Nat) (hr : rd 0 0 l = some (u, n)) (hu1 : 0 ≤ uz u) (hu2 : uz u ≤ 4000) :
    Calls Try.prog 15 #[.slice A l.length c] w (GetPost l w) := by
  obtain ⟨i0, hi, hz0, hz1, hz2⟩ := info_parts infoI64
  have hd : decide (uz u < 0) = false := by simp; omega
  have hd2 : decide (4000 < uz u) = false := by simp; omega
  obtain ⟨K, hK⟩ := Int.eq_ofNat_of_zero_le hu1
  have hval : getB l = (getL K (l.drop n)).map ([] ++ ·) := by
    simp only [getB, hr]; rw [if_neg (by omega), hK]; simp
  rw [hK] at hd hd2 hu1 hu2
  have H_hl := Lib.hid hl; clear hl; have H_hb := Lib.hid hb; clear hb; have H_hr := Lib.hid hr; clear hr; have H_hval := Lib.hid hval; clear hval; have H_hK := Lib.hid hK; clear hK
  go_enter_defers Try.func15, Try.ntmps15
  go_wp2_with fail
  refine (next_some (w.heap.size + 2) A c l u n H_hr.out _ (((H_hl.out.alloc _).alloc _).alloc _) hn hcap H_hb.out (by go_simp) (by go_simp)).mono ?_
  rintro e w1 ⟨A1, c1, rfl, rfl, hc1, hi1⟩
  rw [H_hK.out]
  have H_hc1 := Lib.hid hc1; clear hc1; have H_hi1 := Lib.hid hi1; clear hi1
  go_wp2_with fail
  go_loopw [16] (fun i wr => ∃ (k : Nat) (acc rest : List Int) (L A : Option Addr) (d c : Nat), i = .int .i64 k ∧ GetInv l K w k acc rest L A d c wr) (fun i _ => K - (intOf i).toNat)
  case atStart =>
    exact ⟨0, [], l.drop n, none, A1, 0, c1, rfl, by omega, by go_simp, by go_simp, by go_simp, by go_simp, by go_simp, by go_simp, H_hi1.out w H_hl.out, H_hc1.out, by simp; omega, getD_drop H_hb.out n, OwnInts.nil _ _ _ _, (by (repeat (first | with_reducible exact Below.refl _ _ | with_reducible exact Nat.le_refl _ | with_reducible assumption | with_reducible refine Below.drew ?_ | with_reducible refine below_drewN ?_ _ | with_reducible refine Below.alloc ?_ ?_ _ | with_reducible refine Below.setCell ?_ ?_ _ | with_reducible exact And.right (by assumption) | with_reducible refine Below.trans ?_ (Below.mono (by assumption) ?_) | with_reducible exact Below.size (And.right (by assumption)) | (focus omega) | (focus (simp; done)) | (focus (simp; omega)) | (focus (simp at *; omega))))), by simp, rfl, H_hval.out⟩
  case round =>
    obtain ⟨k, acc, rest, L, A, d, c, rfl, inv⟩ := hrel
    have hk := inv.hk
    by_cases hlt : k < K
    · cases hrd : rd 0 0 rest with
      | none =>
        have c0 := inv.c0
        have c2 := inv.c2
        have f2 := inv.f2
        have hlen := inv.len
        have hcp := inv.cap
        have fin : ∀ W', Below w.heap.size wr.drew W' → GetPost l w (.returned (.tuple #[.slice none 0 0, .int .i64 7])) W' := fun W' hW =>
          .inl ⟨by rw [inv.val, show K - k = (K - k - 1) + 1 by omega, getL, hrd]; rfl, rfl, (inv.below.drew).trans hW⟩
        have H_inv := Lib.hid inv; clear inv; have H_hrd := Lib.hid hrd; clear hrd; have H_fin := Lib.hid fin; clear fin
        go_wp2_with fail
        go_region_dies
        all_goals
          refine (next_none (w.heap.size + 2) A c rest H_hrd.out _ (by exact H_inv.out.ints.below H_inv.out.below.drew) hlen hcp H_inv.out.bytes (by go_simp) (by go_simp)).mono ?_
          rintro e w1 ⟨rfl, rfl⟩
          exact door_panic rfl rfl H_inv.out.c0 H_inv.out.f0 H_inv.out.c1 H_inv.out.f1 fun W' hW => H_fin.out W' hW
      | some un =>
        obtain ⟨u', n'⟩ := un
        have c0 := inv.c0
        have c2 := inv.c2
        have f2 := inv.f2
        have f0 := inv.f0
        have hlen := inv.len
        have hcp := inv.cap
        have hsz := inv.size
        have s0 : w.heap.size < wr.heap.size := by omega
        have H_inv := Lib.hid inv; clear inv; have H_hrd := Lib.hid hrd; clear hrd
        go_wp2_with fail
        go_region_law (first | (refine step_app_ints _ (by rfl) (.tmp 18) (.tmp 20) _ (by rfl) (w.heap.size + 3) 3 i0 _ 8 Try.underlying22 hi hz0 hz1 hz2 rfl .i64 L d acc (by rfl) (by exact ((H_inv.out.own.set (by show w.heap.size + 2 < w.heap.size + 3; omega) _).alloc _)) (some ⟨wr.heap.size, 0, none⟩) 1 [uz u'] (by rfl) (by exact ints_new1 _ _ _ _ _ (by simp)) (by have := H_inv.out.alen; simp; omega) (by have := H_inv.out.alen; simp; omega) (by simp; omega) ?_; intro L' d' w3 ho3 hg3 hB3; have hK3 := grown_low hg3 (by exact ((H_inv.out.own.set (by show w.heap.size + 2 < w.heap.size + 3; omega) _).alloc _)) (p := ⟨w.heap.size, 0, none⟩) (by show w.heap.size < w.heap.size + 3; omega) (by simp; omega); have H_ho3 := Lib.hid ho3; clear ho3; have H_hg3 := Lib.hid hg3; clear hg3; have H_hB3 := Lib.hid hB3; clear hB3) | (go_simp; go_at_call 29; refine (next_some (w.heap.size + 2) A c rest u' n' H_hrd.out _ (by exact H_inv.out.ints.below H_inv.out.below.drew) hlen hcp H_inv.out.bytes (by go_simp) (by go_simp)).mono ?_; rintro e w1 ⟨A2, c2', rfl, rfl, hc2, hi2⟩; have H_hc2 := Lib.hid hc2; clear hc2; have H_hi2 := Lib.hid hi2; clear hi2))
        all_goals
          go_wp2_with fail
          go_roundw
          case rel => exact ⟨k + 1, acc ++ [uz u'], rest.drop n', L', A2, d', c2', by go_num, inv_step H_inv.out H_hrd.out hlt H_hc2.out H_hi2.out H_ho3.out H_hg3.out⟩
          case measure => simp [intOf]; omega
    · have c0 := inv.c0
      have c1 := inv.c1
      have c2 := inv.c2
      have f0 := inv.f0
      have f1 := inv.f1
      have hkK : k = K := by omega
      have hsz := inv.size
      have s0 : w.heap.size < wr.heap.size := by omega
      have s1 : w.heap.size + 1 < wr.heap.size := by omega
      by_cases hre : rest = []
      · have fin : GetPost l w (.returned (.tuple #[.slice L acc.length d, .int .i64 0])) ((wr.setCell ⟨w.heap.size, 0, none⟩ (.slice L acc.length d)).setCell ⟨w.heap.size + 1, 0, none⟩ (.int .i64 0)) :=
          .inr ⟨acc, by rw [inv.val, hkK, hre]; simp [getL], L, d, rfl, get_own ((inv.own.set (by show w.heap.size < _; omega) _).set (by show w.heap.size + 1 < _; omega) _), (inv.below.setCell (Nat.le_refl _) _).setCell (by show w.heap.size ≤ w.heap.size + 1; omega) _⟩
        subst hre
        have H_inv := Lib.hid inv; clear inv; have H_hkK := Lib.hid hkK; clear hkK; have H_fin := Lib.hid fin; clear fin
        go_wp2_with fail
        exact door_ret rfl rfl (by go_simp) (by go_simp) H_fin.out
      · have fin : GetPost l w (.returned (.tuple #[.slice none 0 0, .int .i64 7])) ((wr.setCell ⟨w.heap.size, 0, none⟩ (.slice none 0 0)).setCell ⟨w.heap.size + 1, 0, none⟩ (.int .i64 7)) :=
          .inl ⟨by rw [inv.val, hkK]; simp [getL, hre], rfl, (inv.below.setCell (Nat.le_refl _) _).setCell (by show w.heap.size ≤ w.heap.size + 1; omega) _⟩
        have hpos : 0 < rest.length := List.length_pos_iff.2 hre
        clear hre
        have H_inv := Lib.hid inv; clear inv; have H_hkK := Lib.hid hkK; clear hkK; have H_fin := Lib.hid fin; clear fin
        go_wp2_with fail
        exact door_ret rfl rfl (by go_simp) (by go_simp) H_fin.out

theorem codGet_any (A : Option Addr) (c : Nat) (l : List Int) (w : World) (hl : IntsAt w A .u8 l) (hn : l.length ≤ 1000000) (hcap : l.length ≤ c) (hb : ∀ i, 0 ≤ l.getD i 0 ∧ l.getD i 0 ≤ 255) :
    Calls Try.prog 15 #[.slice A l.length c] w (GetPost l w) := by
  cases hr : rd 0 0 l with
  | none => exact (get_none A c l w hl hn hcap hb hr).mono fun e w' h => .inl ⟨by simp [getB, hr], h⟩
  | some un =>
    obtain ⟨u, n⟩ := un
    by_cases hu : uz u < 0 ∨ uz u > 4000
    · exact (get_range A c l w hl hn hcap hb u n hr hu).mono fun e w' h => .inl ⟨by simp only [getB, hr]; rw [if_pos hu], h⟩
    · exact get_loop A c l w hl hn hcap hb u n hr (by omega) (by omega)
end Go.Proofs.Ytopdgjpoknndmaa
