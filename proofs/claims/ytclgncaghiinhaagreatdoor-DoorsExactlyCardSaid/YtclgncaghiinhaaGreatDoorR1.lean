/- Contracts of the reference of digest: Decimal, Text, Next, Chain. -/
import Derived.Test.YtclgncaghiinhaaGreatDoorChecked
import Derived.WalkKit
import Derived.WalkSpells
import Derived.WalkLawsBesides
import Derived.Deep.QuietTactic
import Derived.BigQuiet
import Derived.BigGuardPart
import Derived.Lib.Hide
import Derived.Below
import Derived.IntWalk
import Derived.Laws.Rows
import Derived.OneCell
import Derived.Outline
import Derived.Deep.RegionHeld3
import Derived.Deep.RegionWith
import Derived.Maps.AppendAt
import Derived.Deep.AppendLies
import Derived.Laws.OwnMore
import Derived.OwnWalk
import Derived.Laws.BitsAllLaws
import Derived.Lib.ItoaNum
import Derived.Lib.ItoaLen
import Derived.Shelf.Small.Wraps
import Derived.Shelf.Strconv.Itoa0
import Derived.Shelf.Strconv.Itoa1
import Derived.Shelf.LaysM
import Derived.Shelf.Strconv.Itoa2
import Derived.Shelf.Strconv.Itoa3
import Derived.Shelf.Slices.Turned
import Derived.Shelf.Slices.Reverse
import Derived.Ground.Names2Prog
import Derived.Shelf.Slices.Clone
import Derived.Shelf.Slices.SearchI
import Derived.Shelf.Slices.Cells
import Derived.Shelf.Slices.Empties
import Derived.Test.YtclgncaghiinhaaGreatDoorProg
import Derived.Lib.AppendIntMem
import Derived.Lib.OthersKept
import Derived.Laws.BytesArg
import Derived.Lib.Strings
import Derived.Lib.AppendStr
import Derived.Test.YtclgncaghiinhaaGreatDoorM1
import Derived.Test.YtclgncaghiinhaaGreatDoorM2
import Derived.Test.YtclgncaghiinhaaGreatDoorM3
import Derived.Test.YtclgncaghiinhaaGreatDoorM4
import Derived.Test.YtclgncaghiinhaaGreatDoorM5
import Derived.Test.YtclgncaghiinhaaGreatDoorM6
import Derived.Test.YtclgncaghiinhaaGreatDoorM7
import Derived.Test.YtclgncaghiinhaaGreatDoorM8
import Derived.Test.YtclgncaghiinhaaGreatDoorM9
import Derived.Test.YtclgncaghiinhaaGreatDoorM10
import Derived.Test.YtclgncaghiinhaaGreatDoorM11
import Derived.Test.YtclgncaghiinhaaGreatDoorM12
import Derived.Test.YtclgncaghiinhaaGreatDoorM13
import Derived.Test.YtclgncaghiinhaaGreatDoorM14
import Derived.Test.YtclgncaghiinhaaGreatDoorM15
import Derived.Test.YtclgncaghiinhaaGreatDoorM16
import Derived.Test.YtclgncaghiinhaaGreatDoorM17
import Derived.Test.YtclgncaghiinhaaGreatDoorM18
import Derived.Test.YtclgncaghiinhaaGreatDoorM19
import Derived.Test.YtclgncaghiinhaaGreatDoorM20
import Derived.Test.YtclgncaghiinhaaGreatDoorM21
import Derived.Test.YtclgncaghiinhaaGreatDoorM22
import Derived.Test.YtclgncaghiinhaaGreatDoorM23
import Derived.Test.YtclgncaghiinhaaGreatDoorM24
import Derived.Test.YtclgncaghiinhaaGreatDoorM25
import Derived.Test.YtclgncaghiinhaaGreatDoorM26
import Derived.Test.YtclgncaghiinhaaGreatDoorM27
import Derived.Test.YtclgncaghiinhaaGreatDoorM28
import Derived.Test.YtclgncaghiinhaaGreatDoorM29
import Derived.Test.YtclgncaghiinhaaGreatDoorM30
import Derived.Test.YtclgncaghiinhaaGreatDoorM31
import Derived.Test.YtclgncaghiinhaaGreatDoorM32
import Derived.Test.YtclgncaghiinhaaGreatDoorM33
import Derived.Test.YtclgncaghiinhaaGreatDoorM34
import Derived.Test.YtclgncaghiinhaaGreatDoorM35
import Derived.Test.YtclgncaghiinhaaGreatDoorM36
import Derived.Test.YtclgncaghiinhaaGreatDoorM37
import Derived.Test.YtclgncaghiinhaaGreatDoorM38
import Derived.Test.YtclgncaghiinhaaGreatDoorM39
import Derived.Test.YtclgncaghiinhaaGreatDoorM40
import Derived.Test.YtclgncaghiinhaaGreatDoorM41
import Derived.Test.YtclgncaghiinhaaGreatDoorM42
import Derived.Test.YtclgncaghiinhaaGreatDoorM43
import Derived.Test.YtclgncaghiinhaaGreatDoorM44
import Derived.Test.YtclgncaghiinhaaGreatDoorM45
import Derived.Test.YtclgncaghiinhaaGreatDoorM46
set_option linter.unusedSimpArgs false
set_option linter.unusedVariables false
set_option maxRecDepth 100000
namespace Go.Proofs.YtclgncaghiinhaaGreatDoor
open Go.RowKit

section
theorem ret_slice {A : Option Addr} {n m c : Nat} (h : n = m) : Ending.returned (.slice A n c) = .returned (.slice A m c) := by rw [h]
section
variable {w w' : World} {A : Option Addr} {k : IntKind} {l : List Int}
end
section
variable {w w' : World} {base : Nat} {E : TypeId} {k : IntKind} {A : Option Addr} {c : Nat} {l : List Int}
end
section
variable {P : Program} (w : World)
end
end
theorem decB_len (n : Int) (h : -9223372036854775808 ≤ n ∧ n ≤ 9223372036854775807) : (decB n).length ≤ 21 := by
  simp only [decB, List.length_map]; exact Lib.itoa_length_le n h.1 h.2
theorem infoU8 : (Tryz.prog.info? 5).map (fun i => (i.zero, i.size, i.bytes)) = some (some (.int .u8 0), 1, 1) := by kernel_rfl
set_option maxHeartbeats 1000000 in
theorem refSum_any (A : Option Addr) (c : Nat) (l : List Int) (w : World) (hl : IntsAt w A .u8 l) (hn : l.length ≤ 9223372036854775806) (hb : ∀ i, 0 ≤ l.getD i 0 ∧ l.getD i 0 ≤ 255) :
    Calls Tryz.prog 114 #[.slice A l.length c] w fun e w' => e = .returned (.int .u64 (sumB 14695981039346656037 l)) ∧ w = w' := by
  generalize hN : l.length = N at *
  have ⟨H_hl, H_hb, H_hN⟩ := hid3 hl hb hN; clear hl hb hN
  go_enter Tryz.func114, Tryz.ntmps114
  go_wp2
  go_loop [3, 4] (fun d i => ∃ k : Nat, k ≤ N ∧ i = .int .i64 k ∧ d = .int .u64 (sumB 14695981039346656037 (l.take k))) (fun _ i => N - (intOf i).toNat)
  case atStart => exact ⟨0, by omega, rfl, rfl⟩
  case round =>
    obtain ⟨k, hk, rfl, rfl⟩ := hrel
    by_cases hlt : k < N
    · obtain ⟨b, off, hA, hbs, hc⟩ := H_hl.out k (by rw [H_hN.out]; exact hlt)
      have hB := H_hb.out k
      have hB1 := hB.1
      have hB2 := hB.2
      have hs := sumB_take_succ 14695981039346656037 l k (by rw [H_hN.out]; exact hlt)
      subst hA
      generalize l.getD k 0 = x at *
      generalize sumB 14695981039346656037 (l.take k) = D at *
      have ⟨H_hs, H_hB⟩ := hid2 hs hB; clear hs hB
      go_wp2
      go_round
      case rel => exact ⟨k + 1, by omega, by go_num, by rw [H_hs.out]; rfl⟩
      case measure => simp [intOf]; omega
    · have ht : l.take k = l := List.take_of_length_le (by rw [H_hN.out]; omega)
      rw [ht]
      have H_ht := Lib.hid ht; clear ht
      go_wp2
      go_ret
      exact ⟨rfl, rfl⟩
theorem run_str (w : World) (A : Option Addr) (l : List Int) (c : Nat) (h : IntsAt w A .u8 l) :
    (convert 161 9 (.slice A l.length c)).run Tryz.prog w = .ok (.string (strOfNums l)) w := by
  cases l with
  | nil =>
    cases A with
    | none => exact run_convert_bytes_nil w _ _ Tryz.underlying161 Tryz.underlying5 0 c _ Tryz.underlying9
    | some a =>
      rw [run_convert_bytes_string w _ _ _ _ _ c Tryz.underlying161 Tryz.underlying5 Tryz.underlying9]
      have := run_bytesToString (P := Tryz.prog) w a 0 c [] (by simp [loadCells, loadCellsFrom])
      exact this
  | cons x r =>
    obtain ⟨b, off, rfl, _⟩ := h 0 (by simp)
    refine run_convert_bytes_arg w _ _ Tryz.underlying161 Tryz.underlying5 b off (x :: r).length c (x :: r) rfl (fun i hi => ?_) _ Tryz.underlying9
    obtain ⟨b', off', e, _, hc⟩ := h i hi
    injection e with e
    injection e with e1 e2
    subst e1 e2
    exact hc
/-- the digits of a number, the last one first -/
def revD : Nat → List Int
  | u => if h : u = 0 then [] else (48 + (u : Int) % 10) :: revD (u / 10)
termination_by u => u
decreasing_by omega
theorem revD_zero : revD 0 = [] := by rw [revD]; simp
theorem revD_pos {u : Nat} (h : u ≠ 0) : revD u = (48 + (u : Int) % 10) :: revD (u / 10) := by rw [revD]; simp [h]
theorem revD_dec : ∀ (k u : Nat), u < k → u ≠ 0 → (revD u).reverse = (Lib.decDigits u).map fun b => (b.toNat : Int)
  | 0, u, h, _ => by omega
  | k + 1, u, h, h0 => by
    have e : ∀ d : Nat, d < 10 → (((UInt8.ofNat (48 + d)).toNat : Nat) : Int) = 48 + (d : Int) := fun d hd => by
      have : (UInt8.ofNat (48 + d)).toNat = 48 + d := by simp; omega
      rw [this]; omega
    rw [revD_pos h0, Lib.decDigits]
    by_cases h1 : u < 10
    · have h2 : u / 10 = 0 := by omega
      have h3 : u % 10 = u := by omega
      rw [h2, revD_zero, dif_pos h1]
      have := e u h1
      simp only [List.reverse_cons, List.reverse_nil, List.nil_append, List.map_cons, List.map_nil, this]
      congr 1; omega
    · have ih := revD_dec k (u / 10) (by omega) (by omega)
      have := e (u % 10) (by omega)
      rw [dif_neg h1, List.map_append, ← ih]
      simp only [List.reverse_cons, List.map_cons, List.map_nil, this]
      rfl
theorem dec_pos {n : Int} (h : 0 < n) : decB n = (revD n.toNat).reverse := by
  rw [revD_dec _ _ (Nat.lt_succ_self _) (by omega), decB, Lib.itoa, if_neg (by omega)]
theorem dec_neg {n : Int} (h : n < 0) : decB n = (revD n.natAbs ++ [45]).reverse := by
  rw [List.reverse_append, revD_dec _ _ (Nat.lt_succ_self _) (by omega), decB, Lib.itoa, if_pos (by omega)]
  rfl
theorem revD_len (k u : Nat) (h : u < 10 ^ k) : (revD u).length ≤ k := by
  induction k generalizing u with
  | zero => have : u = 0 := by simpa using h
            subst this; simp [revD_zero]
  | succ k ih =>
    by_cases h0 : u = 0
    · subst h0; simp [revD_zero]
    · rw [revD_pos h0, List.length_cons]
      have := ih (u / 10) (by rw [Nat.pow_succ] at h; omega)
      omega
theorem revD_mem : ∀ (k u : Nat), u < k → ∀ x ∈ revD u, 45 ≤ x ∧ x ≤ 57
  | 0, u, h, _, _ => by omega
  | k + 1, u, h, x, hx => by
    by_cases h0 : u = 0
    · subst h0; rw [revD_zero] at hx; cases hx
    · rw [revD_pos h0] at hx
      rcases List.mem_cons.1 hx with rfl | h1
      · omega
      · exact revD_mem k (u / 10) (by omega) x h1
theorem str_dec (n : Int) : strOfNums (decB n) = txt n := by
  have : ((decB n).map fun x => UInt8.ofNat x.toNat) = Lib.itoa n := by
    rw [decB, List.map_map]
    conv => rhs; rw [← List.map_id (Lib.itoa n)]
    apply List.map_congr_left
    intro b _
    simp
  rw [strOfNums, this]; rfl
theorem rev_getD (L : List Int) (k : Nat) (h : k < L.length) : L.reverse.getD k 0 = L.getD (L.length - 1 - k) 0 := by
  simp [List.getD_eq_getElem?_getD, List.getElem?_reverse h]
theorem tmod_neg (M : Nat) : (-(M : Int)).tmod 10 = -((M : Int) % 10) := by rw [Int.neg_tmod]; congr 1
theorem tdiv_neg (M : Nat) : (-(M : Int)).tdiv 10 = -((M / 10 : Nat) : Int) := by rw [Int.neg_tdiv]; congr 1
set_option maxHeartbeats 4000000 in
theorem dec_loop_pos (n : Int) (w : World) (h1 : 0 < n) (h2 : n ≤ 9223372036854775807) :
    Calls Tryz.prog 131 #[.int .i64 n] w fun e w' => e = .returned (.string (txt n)) ∧ Below w.heap.size w w' := by
  obtain ⟨i0, hi, hz0, hz1, hz2⟩ := info_parts infoU8
  obtain ⟨u, rfl⟩ := Int.eq_ofNat_of_zero_le (Int.le_of_lt h1)
  have hdec := dec_pos h1
  rw [Int.toNat_natCast] at hdec
  have hlen := revD_len 20 u (by omega)
  have hb0 : ((u : Int) == 0) = false := by rw [beq_eq_false_iff_ne]; omega
  have hneg : decide ((u : Int) < 0) = false := by simp
  have hrm := revD_mem _ u (Nat.lt_succ_self _)
  generalize hR : revD u = R at *
  have hst := str_dec (u : Int)
  generalize hTX : txt (u : Int) = TX at *
  generalize hDB : decB (u : Int) = DB at *
  have hu : u ≤ 9223372036854775808 := by omega
  have ⟨H_hdec, H_hR, H_hlen, H_hrm, H_hst, H_hTX, H_hDB⟩ := hid7 hdec hR hlen hrm hst hTX hDB; clear hdec hR hlen hrm hst hTX hDB
  go_enter Tryz.func131, Tryz.ntmps131
  go_wp2_with fail
  go_loopw [3, 4] (fun b m wr => ∃ (B : Option Addr) (d : Nat) (l2 : List Int) (M : Nat), b = .slice B l2.length d ∧ m = .int .i64 (M : Int) ∧ M ≤ u ∧ OwnInts wr w.heap.size 5 .u8 B d l2 ∧ l2 ++ revD M = R ∧ Below w.heap.size w wr) (fun _ m _ => (intOf m).natAbs)
  case atStart => exact ⟨none, 0, [], u, rfl, rfl, Nat.le_refl _, OwnInts.nil _ _ _ _, H_hR.out, Below.refl _ _⟩
  case round =>
    obtain ⟨B, d, l2, M, rfl, rfl, hM, ho, hv, hbw⟩ := hrel
    have hll : l2.length ≤ 20 := by have := congrArg List.length hv; have := H_hlen.out; simp at *; omega
    have hsz := hbw.size
    by_cases h0 : M = 0
    · rw [h0, revD_zero, List.append_nil] at hv
      subst hv
      have hM0 : (M : Int) = 0 := by omega
      rw [hM0]
      clear hM0
      obtain ⟨L, hL⟩ : ∃ L, L = l2 := ⟨_, rfl⟩
      have hLd : DB = L.reverse := by rw [hL]; exact H_hdec.out
      have hLm : ∀ x ∈ L, 45 ≤ x ∧ x ≤ 57 := by rw [hL]; exact H_hrm.out
      rw [← hL] at ho hll ⊢
      clear hL
      obtain ⟨N, hN⟩ : ∃ N, L.length = N := ⟨_, rfl⟩
      have hN21 : N ≤ 21 := by omega
      have hi1 := ho.ints
      have hcp := ho.cap
      rw [hN] at hcp hll ⊢
      have hbw1 := hbw
      have ⟨H_ho, H_hbw, H_hi1, H_hLd, H_hLm, H_hN, H_hbw1⟩ := hid7 ho hbw hi1 hLd hLm hN hbw1; clear ho hbw hi1 hLd hLm hN hbw1
      obtain ⟨w1, hw1⟩ : ∃ w1, w1 = wr := ⟨_, rfl⟩
      rw [← hw1] at H_hi1 H_hbw1 hsz ⊢
      have hsz1 := hsz
      clear hw1 H_hbw H_ho
      go_wp2_with fail
      go_loopw [6, 7] (fun b i ws => ∃ (k : Nat) (B2 : Option Addr) (d2 : Nat), k ≤ N ∧ i = .int .i64 ((N : Int) - 1 - k) ∧ b = .slice B2 k d2 ∧ OwnInts ws w1.heap.size 5 .u8 B2 d2 (L.reverse.take k) ∧ Below w1.heap.size w1 ws) (fun _ i _ => (intOf i + 1).toNat)
      case atStart => exact ⟨0, none, 0, by omega, by congr 1; omega, rfl, OwnInts.nil _ _ _ _, Below.refl _ _⟩
      case round =>
        obtain ⟨k, B2, d2, hk, rfl, rfl, ho2, hb2⟩ := hrel
        have hs2 := hb2.size
        have htl : (L.reverse.take k).length = k := by simp [H_hN.out]; omega
        by_cases hlt : k < N
        · obtain ⟨b, off, hA, hbs, hc⟩ := (H_hi1.out.below hb2) (N - 1 - k) (by rw [H_hN.out]; omega)
          have hrv := rev_getD L k (by rw [H_hN.out]; exact hlt)
          rw [H_hN.out] at hrv
          have hsn := take_snocD L.reverse k 0 (by rw [List.length_reverse, H_hN.out]; exact hlt)
          rw [hrv] at hsn
          generalize L.getD (N - 1 - k) 0 = x at *
          have i1 : (0 : Int) ≤ (N : Int) - 1 - k := by omega
          have i2 : (N : Int) - 1 - k < (N : Int) := by omega
          have i4 : (k : Int) ≤ (N : Int) - 1 := by omega
          have i3 : ((N : Int) - 1 - k).toNat = N - 1 - k := by omega
          subst hA
          have ⟨H_ho2, H_hb2, H_htl, H_hrv, H_hsn⟩ := hid5 ho2 hb2 htl hrv hsn; clear ho2 hb2 htl hrv hsn
          go_wp2_with (at_builtin; refine wp_app_at _ rfl (.tmp 39) (.tmp 44) _ rfl w1.heap.size 5 i0 _ 1 Tryz.underlying161 hi hz0 hz1 hz2 rfl .u8 B2 d2 k (L.reverse.take k) H_htl.out rfl (H_ho2.out.alloc _) (some ⟨wr.heap.size, 0, none⟩) 1 1 [x] rfl rfl (ints_new1 _ _ _ _ _ rfl) ?_ ?_ ?_ ?_)
          · omega
          · omega
          · first | omega | (simp; omega)
          intro B' d' w3 ho3 hg3 hB3
          have hb3 := (H_ho2.out.alloc (.cells #[.int .u8 x] 5)).grow (H_hb2.out.alloc hs2 _) hg3
          have ⟨H_ho3, H_hg3, H_hB3, H_hb3⟩ := hid4 ho3 hg3 hB3 hb3; clear ho3 hg3 hB3 hb3
          go_wp2_with fail
          go_roundw
          case rel => exact ⟨k + 1, B', d', by omega, by congr 1; omega, rfl, by rw [H_hsn.out]; exact H_ho3.out, H_hb3.out⟩
          case measure => simp [intOf]; omega
        · have hall : L.reverse.take k = L.reverse := List.take_of_length_le (by simp [H_hN.out]; omega)
          rw [hall] at ho2 htl
          have hkN : k = N := by omega
          have i1 : ¬ (0 : Int) ≤ (N : Int) - 1 - k := by omega
          have i4 : ¬ (k : Int) ≤ (N : Int) - 1 := by omega
          have hrs := run_str wr B2 L.reverse d2 ho2.ints
          rw [htl, ← H_hLd.out, H_hst.out] at hrs
          have ⟨H_ho2, H_hb2, H_htl, H_hall, H_hkN⟩ := hid5 ho2 hb2 htl hall hkN; clear ho2 hb2 htl hall hkN
          go_wp2_with fail
          go_ret
          exact ⟨rfl, H_hbw1.out.trans (H_hb2.out.mono hsz1)⟩
    · have hne : ((M : Int) != 0) = true := by rw [bne_iff_ne]; omega
      rw [revD_pos h0] at hv
      have hd0 : ¬ (M : Int) % 10 < 0 := by omega
      have e256 : (48 + (M : Int) % 10) % 256 = 48 + (M : Int) % 10 := by omega
      have ⟨H_ho, H_hv, H_hbw⟩ := hid3 ho hv hbw; clear ho hv hbw
      go_wp2_with (at_builtin; refine wp_app_ints _ rfl (.tmp 21) (.tmp 25) _ rfl w.heap.size 5 i0 _ 1 Tryz.underlying161 hi hz0 hz1 hz2 rfl .u8 B d l2 rfl (H_ho.out.alloc _) (some ⟨wr.heap.size, 0, none⟩) 1 [48 + (M : Int) % 10] rfl (ints_new1 _ _ _ _ _ rfl) ?_ ?_ ?_ ?_)
      · first | omega | (simp; omega)
      · first | omega | (simp; omega)
      · first | omega | (simp; omega)
      intro B' d' w2 ho2 hg2 hB2
      have hb2 := (H_ho.out.alloc (.cells #[.int .u8 (48 + (M : Int) % 10)] 5)).grow (H_hbw.out.alloc hsz _) hg2
      have ⟨H_ho2, H_hg2, H_hB2, H_hb2⟩ := hid4 ho2 hg2 hB2 hb2; clear ho2 hg2 hB2 hb2
      go_wp2_with fail
      go_roundw
      case rel =>
        refine ⟨B', d', l2 ++ [48 + (M : Int) % 10], M / 10, by simp, by go_num, by omega, H_ho2.out, ?_, H_hb2.out⟩
        rw [← H_hv.out]; simp
      case measure => simp [intOf]; omega
set_option maxHeartbeats 4000000 in
theorem dec_loop_neg (n : Int) (w : World) (h1 : n < 0) (h2 : -9223372036854775808 ≤ n) :
    Calls Tryz.prog 131 #[.int .i64 n] w fun e w' => e = .returned (.string (txt n)) ∧ Below w.heap.size w w' := by
  obtain ⟨i0, hi, hz0, hz1, hz2⟩ := info_parts infoU8
  obtain ⟨u, rfl⟩ : ∃ u : Nat, n = -(u : Int) := ⟨n.natAbs, by omega⟩
  have hdec := dec_neg h1
  rw [Int.natAbs_neg, Int.natAbs_natCast] at hdec
  have hlen := revD_len 20 u (by omega)
  have hb0 : (-(u : Int) == 0) = false := by rw [beq_eq_false_iff_ne]; omega
  have hneg : decide (-(u : Int) < 0) = true := by simp; omega
  have hrm := revD_mem _ u (Nat.lt_succ_self _)
  generalize hR : revD u = R at *
  have hst := str_dec (-(u : Int))
  generalize hTX : txt (-(u : Int)) = TX at *
  generalize hDB : decB (-(u : Int)) = DB at *
  have hu : u ≤ 9223372036854775808 := by omega
  have ⟨H_hdec, H_hR, H_hlen, H_hrm, H_hst, H_hTX, H_hDB⟩ := hid7 hdec hR hlen hrm hst hTX hDB; clear hdec hR hlen hrm hst hTX hDB
  go_enter Tryz.func131, Tryz.ntmps131
  go_wp2_with fail
  go_loopw [3, 4] (fun b m wr => ∃ (B : Option Addr) (d : Nat) (l2 : List Int) (M : Nat), b = .slice B l2.length d ∧ m = .int .i64 (-(M : Int)) ∧ M ≤ u ∧ OwnInts wr w.heap.size 5 .u8 B d l2 ∧ l2 ++ revD M = R ∧ Below w.heap.size w wr) (fun _ m _ => (intOf m).natAbs)
  case atStart => exact ⟨none, 0, [], u, rfl, rfl, Nat.le_refl _, OwnInts.nil _ _ _ _, H_hR.out, Below.refl _ _⟩
  case round =>
    obtain ⟨B, d, l2, M, rfl, rfl, hM, ho, hv, hbw⟩ := hrel
    have hll : l2.length ≤ 20 := by have := congrArg List.length hv; have := H_hlen.out; simp at *; omega
    have hsz := hbw.size
    by_cases h0 : M = 0
    · rw [h0, revD_zero, List.append_nil] at hv
      subst hv
      have hM0 : (-(M : Int)) = 0 := by omega
      rw [hM0]
      clear hM0
      have ⟨H_ho, H_hbw⟩ := hid2 ho hbw; clear ho hbw
      go_wp2_with (at_builtin; refine wp_app_ints _ rfl (.tmp 29) (.tmp 30) _ rfl w.heap.size 5 i0 _ 1 Tryz.underlying161 hi hz0 hz1 hz2 rfl .u8 B d l2 rfl (H_ho.out.alloc _) (some ⟨wr.heap.size, 0, none⟩) 1 [45] rfl (ints_new1 _ _ _ _ _ rfl) ?_ ?_ ?_ ?_)
      · first | omega | (simp; omega)
      · first | omega | (simp; omega)
      · first | omega | (simp; omega)
      intro B d w1 ho1 hg1 hB1
      have hbw1 := (H_ho.out.alloc (.cells #[.int .u8 45] 5)).grow (H_hbw.out.alloc hsz _) hg1
      obtain ⟨L, hL⟩ : ∃ L, L = l2 ++ [45] := ⟨_, rfl⟩
      have hLd : DB = L.reverse := by rw [hL]; exact H_hdec.out
      have hLm : ∀ x ∈ L, 45 ≤ x ∧ x ≤ 57 := by
        rw [hL]; intro x hx
        rcases List.mem_append.1 hx with h | h
        · exact H_hrm.out x h
        · have : x = 45 := by simpa using h
          omega
      rw [← hL] at ho1
      have hll1 : L.length ≤ 21 := by rw [hL]; simp; omega
      obtain ⟨N, hN⟩ : ∃ N, L.length = N := ⟨_, rfl⟩
      have hl2N : l2.length + 1 = N := by rw [← hN, hL]; simp
      rw [hl2N]
      clear hL hl2N
      have hN21 : N ≤ 21 := by omega
      have hi1 := ho1.ints
      have hcp := ho1.cap
      rw [hN] at hcp hll1
      have hsz1 := hbw1.size
      clear hg1 hB1
      have ⟨H_ho1, H_hbw1, H_hi1, H_hLd, H_hLm, H_hN⟩ := hid6 ho1 hbw1 hi1 hLd hLm hN; clear ho1 hbw1 hi1 hLd hLm hN
      go_wp2_with fail
      go_loopw [6, 7] (fun b i ws => ∃ (k : Nat) (B2 : Option Addr) (d2 : Nat), k ≤ N ∧ i = .int .i64 ((N : Int) - 1 - k) ∧ b = .slice B2 k d2 ∧ OwnInts ws w1.heap.size 5 .u8 B2 d2 (L.reverse.take k) ∧ Below w1.heap.size w1 ws) (fun _ i _ => (intOf i + 1).toNat)
      case atStart => exact ⟨0, none, 0, by omega, by congr 1; omega, rfl, OwnInts.nil _ _ _ _, Below.refl _ _⟩
      case round =>
        obtain ⟨k, B2, d2, hk, rfl, rfl, ho2, hb2⟩ := hrel
        have hs2 := hb2.size
        have htl : (L.reverse.take k).length = k := by simp [H_hN.out]; omega
        by_cases hlt : k < N
        · obtain ⟨b, off, hA, hbs, hc⟩ := (H_hi1.out.below hb2) (N - 1 - k) (by rw [H_hN.out]; omega)
          have hrv := rev_getD L k (by rw [H_hN.out]; exact hlt)
          rw [H_hN.out] at hrv
          have hsn := take_snocD L.reverse k 0 (by rw [List.length_reverse, H_hN.out]; exact hlt)
          rw [hrv] at hsn
          generalize L.getD (N - 1 - k) 0 = x at *
          have i1 : (0 : Int) ≤ (N : Int) - 1 - k := by omega
          have i2 : (N : Int) - 1 - k < (N : Int) := by omega
          have i4 : (k : Int) ≤ (N : Int) - 1 := by omega
          have i3 : ((N : Int) - 1 - k).toNat = N - 1 - k := by omega
          subst hA
          have ⟨H_ho2, H_hb2, H_htl, H_hrv, H_hsn⟩ := hid5 ho2 hb2 htl hrv hsn; clear ho2 hb2 htl hrv hsn
          go_wp2_with (at_builtin; refine wp_app_at _ rfl (.tmp 39) (.tmp 44) _ rfl w1.heap.size 5 i0 _ 1 Tryz.underlying161 hi hz0 hz1 hz2 rfl .u8 B2 d2 k (L.reverse.take k) H_htl.out rfl (H_ho2.out.alloc _) (some ⟨wr.heap.size, 0, none⟩) 1 1 [x] rfl rfl (ints_new1 _ _ _ _ _ rfl) ?_ ?_ ?_ ?_)
          · omega
          · omega
          · first | omega | (simp; omega)
          intro B' d' w3 ho3 hg3 hB3
          have hb3 := (H_ho2.out.alloc (.cells #[.int .u8 x] 5)).grow (H_hb2.out.alloc hs2 _) hg3
          have ⟨H_ho3, H_hg3, H_hB3, H_hb3⟩ := hid4 ho3 hg3 hB3 hb3; clear ho3 hg3 hB3 hb3
          go_wp2_with fail
          go_roundw
          case rel => exact ⟨k + 1, B', d', by omega, by congr 1; omega, rfl, by rw [H_hsn.out]; exact H_ho3.out, H_hb3.out⟩
          case measure => simp [intOf]; omega
        · have hall : L.reverse.take k = L.reverse := List.take_of_length_le (by simp [H_hN.out]; omega)
          rw [hall] at ho2 htl
          have hkN : k = N := by omega
          have i1 : ¬ (0 : Int) ≤ (N : Int) - 1 - k := by omega
          have i4 : ¬ (k : Int) ≤ (N : Int) - 1 := by omega
          have hrs := run_str wr B2 L.reverse d2 ho2.ints
          rw [htl, ← H_hLd.out, H_hst.out] at hrs
          have ⟨H_ho2, H_hb2, H_htl, H_hall, H_hkN⟩ := hid5 ho2 hb2 htl hall hkN; clear ho2 hb2 htl hall hkN
          go_wp2_with fail
          go_ret
          exact ⟨rfl, H_hbw1.out.trans (H_hb2.out.mono hsz1)⟩
    · have hne : ((-(M : Int)) != 0) = true := by rw [bne_iff_ne]; omega
      rw [revD_pos h0] at hv
      have e1 := tmod_neg M
      have e2 := tdiv_neg M
      have hMM : 0 ≤ (M : Int) % 10 ∧ (M : Int) % 10 ≤ 9 := by omega
      generalize hr : (M : Int) % 10 = r at *
      have hr1 := hMM.1
      have hr2 := hMM.2
      by_cases hz : r = 0
      · subst hz
        rw [Int.neg_zero] at e1
        have ⟨H_ho, H_hv, H_hbw, H_hr, H_hMM⟩ := hid5 ho hv hbw hr hMM; clear ho hv hbw hr hMM
        go_wp2_with (at_builtin; refine wp_app_ints _ rfl (.tmp 21) (.tmp 25) _ rfl w.heap.size 5 i0 _ 1 Tryz.underlying161 hi hz0 hz1 hz2 rfl .u8 B d l2 rfl (H_ho.out.alloc _) (some ⟨wr.heap.size, 0, none⟩) 1 [48] rfl (ints_new1 _ _ _ _ _ rfl) ?_ ?_ ?_ ?_)
        · first | omega | (simp; omega)
        · first | omega | (simp; omega)
        · first | omega | (simp; omega)
        intro B' d' w2 ho2 hg2 hB2
        have hb2 := (H_ho.out.alloc (.cells #[.int .u8 48] 5)).grow (H_hbw.out.alloc hsz _) hg2
        have ⟨H_ho2, H_hg2, H_hB2, H_hb2⟩ := hid4 ho2 hg2 hB2 hb2; clear ho2 hg2 hB2 hb2
        go_wp2_with fail
        go_roundw
        case rel =>
          refine ⟨B', d', l2 ++ [48], M / 10, by simp, by go_num, by omega, H_ho2.out, ?_, H_hb2.out⟩
          rw [← H_hv.out]; simp
        case measure => simp [intOf]; omega
      · have hlt : decide (-r < 0) = true := by simp; omega
        have ⟨H_ho, H_hv, H_hbw, H_hr, H_hMM⟩ := hid5 ho hv hbw hr hMM; clear ho hv hbw hr hMM
        go_wp2_with (at_builtin; refine wp_app_ints _ rfl (.tmp 21) (.tmp 25) _ rfl w.heap.size 5 i0 _ 1 Tryz.underlying161 hi hz0 hz1 hz2 rfl .u8 B d l2 rfl (H_ho.out.alloc _) (some ⟨wr.heap.size, 0, none⟩) 1 [48 + r] rfl (ints_new1 _ _ _ _ _ rfl) ?_ ?_ ?_ ?_)
        · first | omega | (simp; omega)
        · first | omega | (simp; omega)
        · first | omega | (simp; omega)
        intro B' d' w2 ho2 hg2 hB2
        have hb2 := (H_ho.out.alloc (.cells #[.int .u8 (48 + r)] 5)).grow (H_hbw.out.alloc hsz _) hg2
        have ⟨H_ho2, H_hg2, H_hB2, H_hb2⟩ := hid4 ho2 hg2 hB2 hb2; clear ho2 hg2 hB2 hb2
        go_wp2_with fail
        go_roundw
        case rel =>
          refine ⟨B', d', l2 ++ [48 + r], M / 10, by simp, by go_num, by omega, H_ho2.out, ?_, H_hb2.out⟩
          rw [← H_hv.out]; simp
        case measure => simp [intOf]; omega
theorem decimal_zero (w : World) : Calls Tryz.prog 131 #[.int .i64 0] w fun e w' => e = .returned (.string (txt 0)) ∧ Below w.heap.size w w' := by
  have hb0 : ((0 : Int) == 0) = true := rfl
  have h0 : txt 0 = ⟨#[48]⟩ := by
    have : Lib.itoa 0 = [48] := by rw [Lib.itoa, if_neg (by omega), Lib.decDigits]; rfl
    rw [txt, this]
  rw [h0]
  clear h0
  go_enter Tryz.func131, Tryz.ntmps131
  go_wp2_with fail
  go_ret
  exact ⟨rfl, Below.refl _ _⟩
theorem decimal_any (n : Int) (w : World) (h : -9223372036854775808 ≤ n ∧ n ≤ 9223372036854775807) :
    Calls Tryz.prog 131 #[.int .i64 n] w fun e w' => e = .returned (.string (txt n)) ∧ Below w.heap.size w w' := by
  rcases Int.lt_trichotomy n 0 with h1 | rfl | h1
  · exact dec_loop_neg n w h1 h.1
  · exact decimal_zero w
  · exact dec_loop_pos n w h1 h.2
end Go.Proofs.YtclgncaghiinhaaGreatDoor
