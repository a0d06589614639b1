/- Contracts of the reference of digest: Chain. -/
import Derived.Test.YtmbmejclnagffaaDoorChecked
import Derived.WalkKit
import Derived.WalkSpells
import Derived.WalkLawsBesides
import Derived.Deep.QuietTactic
import Derived.BigQuiet
import Derived.BigGuardPart
import Derived.Lib.Hide
import Derived.Below
import Derived.IntWalk
import Derived.Laws.Rows
import Derived.OneCell
import Derived.Outline
import Derived.Deep.RegionHeld3
import Derived.Deep.RegionWith
import Derived.Maps.AppendAt
import Derived.Deep.AppendLies
import Derived.Laws.OwnMore
import Derived.OwnWalk
import Derived.Laws.BitsAllLaws
import Derived.Lib.ItoaNum
import Derived.Lib.ItoaLen
import Derived.Shelf.Strconv.Itoa0
import Derived.Shelf.Strconv.Itoa1
import Derived.Shelf.LaysM
import Derived.Shelf.Strconv.Itoa2
import Derived.Shelf.Strconv.Itoa3
import Derived.Ground.Names2Prog
import Derived.Shelf.Slices.Clone
import Derived.Test.YtmbmejclnagffaaDoorProg
import Derived.Lib.AppendIntMem
import Derived.Lib.OthersKept
import Derived.Laws.BytesArg
import Derived.Lib.Strings
import Derived.Lib.AppendStr
import Derived.Lib.SlBytesConst
import Derived.ProofKit
import Derived.OpenShut
import Derived.ChangeOld
import Derived.Deep.Matrix
import Derived.DataShut
import Derived.SizedLaws
import Derived.Lib.SmallJoins
import Derived.Deep.Slices
import Derived.Deep.CutRange
import Derived.RangeFuncNested
import Derived.RangeFuncBound
import Derived.RangeFuncCalls
import Derived.RangeFuncLeaves
import Derived.Shelf.Abstract
import Derived.Shelf.RegionOpen
import Derived.OwnWalkIn
import Derived.TacticsInMore
import Derived.LoopNIn
import Derived.LoopIn
import Derived.BigGuardPartIn
import Derived.DeepKeys
import Derived.Deep.Cut
import Derived.Test.YtmbmejclnagffaaDoorM1
import Derived.Test.YtmbmejclnagffaaDoorM2
import Derived.Test.YtmbmejclnagffaaDoorM3
import Derived.Test.YtmbmejclnagffaaDoorM4
import Derived.Test.YtmbmejclnagffaaDoorM5
import Derived.Test.YtmbmejclnagffaaDoorM6
import Derived.Test.YtmbmejclnagffaaDoorM7
import Derived.Test.YtmbmejclnagffaaDoorM8
import Derived.Test.YtmbmejclnagffaaDoorM9
import Derived.Test.YtmbmejclnagffaaDoorM10
import Derived.Test.YtmbmejclnagffaaDoorM11
import Derived.Test.YtmbmejclnagffaaDoorM12
import Derived.Test.YtmbmejclnagffaaDoorM13
import Derived.Test.YtmbmejclnagffaaDoorM14
import Derived.Test.YtmbmejclnagffaaDoorM15
import Derived.Test.YtmbmejclnagffaaDoorM16
import Derived.Test.YtmbmejclnagffaaDoorM17
import Derived.Test.YtmbmejclnagffaaDoorM18
import Derived.Test.YtmbmejclnagffaaDoorM19
import Derived.Test.YtmbmejclnagffaaDoorM20
import Derived.Test.YtmbmejclnagffaaDoorM21
import Derived.Test.YtmbmejclnagffaaDoorM22
import Derived.Test.YtmbmejclnagffaaDoorM23
import Derived.Test.YtmbmejclnagffaaDoorM24
import Derived.Test.YtmbmejclnagffaaDoorM25
import Derived.Test.YtmbmejclnagffaaDoorM26
import Derived.Test.YtmbmejclnagffaaDoorM27
import Derived.Test.YtmbmejclnagffaaDoorM28
import Derived.Test.YtmbmejclnagffaaDoorM29
import Derived.Test.YtmbmejclnagffaaDoorM30
import Derived.Test.YtmbmejclnagffaaDoorM31
import Derived.Test.YtmbmejclnagffaaDoorM32
import Derived.Test.YtmbmejclnagffaaDoorM33
import Derived.Test.YtmbmejclnagffaaDoorM34
import Derived.Test.YtmbmejclnagffaaDoorM35
import Derived.Test.YtmbmejclnagffaaDoorM36
import Derived.Test.YtmbmejclnagffaaDoorM37
import Derived.Test.YtmbmejclnagffaaDoorM38
import Derived.Test.YtmbmejclnagffaaDoorM39
import Derived.Test.YtmbmejclnagffaaDoorM40
import Derived.Test.YtmbmejclnagffaaDoorM41
import Derived.Test.YtmbmejclnagffaaDoorM42
import Derived.Test.YtmbmejclnagffaaDoorM43
import Derived.Test.YtmbmejclnagffaaDoorM44
import Derived.Test.YtmbmejclnagffaaDoorM45
import Derived.Test.YtmbmejclnagffaaDoorM46
import Derived.Test.YtmbmejclnagffaaDoorM47
import Derived.Test.YtmbmejclnagffaaDoorM48
set_option linter.unusedSimpArgs false
set_option linter.unusedVariables false
set_option maxRecDepth 100000
namespace Go.Proofs.YtmbmejclnagffaaDoor
open Go.RowKit

section
theorem ret_slice {A : Option Addr} {n m c : Nat} (h : n = m) : Ending.returned (.slice A n c) = .returned (.slice A m c) := by rw [h]
section
variable {w w' : World} {A : Option Addr} {k : IntKind} {l : List Int}
end
section
variable {w w' : World} {base : Nat} {E : TypeId} {k : IntKind} {A : Option Addr} {c : Nat} {l : List Int}
theorem OwnInts.kept {row : Option Nat} (h : OwnInts w base E k A c l) (hg : w.grownBy w' row) (hne : blockOf A = none ∨ blockOf A ≠ row) : OwnInts w' base E k A c l :=
  World.ownsRow.kept h hg (by rw [ownBlock_slice]; exact hne)
theorem OwnInts.alloc (h : OwnInts w base E k A c l) (o : Obj) : OwnInts (w.alloc o) base E k A c l := World.ownsRow.alloc h o
theorem OwnInts.below (h : OwnInts w base E k A c l) (hb : Below w.heap.size w w') : OwnInts w' base E k A c l :=
  h.kept (grown_of_below hb none) (by cases h' : blockOf A <;> simp)
end
section
variable {P : Program} (w : World)
end
end
theorem decB_len (n : Int) (h : -9223372036854775808 ≤ n ∧ n ≤ 9223372036854775807) : (decB n).length ≤ 21 := by
  simp only [decB, List.length_map]; exact Lib.itoa_length_le n h.1 h.2
theorem infoU8 : (Tryd.prog.info? 5).map (fun i => (i.zero, i.size, i.bytes)) = some (some (.int .u8 0), 1, 1) := by kernel_rfl
set_option maxHeartbeats 1000000 in
theorem refSum_any (A : Option Addr) (c : Nat) (l : List Int) (w : World) (hl : IntsAt w A .u8 l) (hn : l.length ≤ 9223372036854775806) (hb : ∀ i, 0 ≤ l.getD i 0 ∧ l.getD i 0 ≤ 255) :
    Calls Tryd.prog 73 #[.slice A l.length c] w fun e w' => e = .returned (.int .u64 (sumB 14695981039346656037 l)) ∧ w = w' := by
  generalize hN : l.length = N at *
  have ⟨H_hl, H_hb, H_hN⟩ := hid3 hl hb hN; clear hl hb hN
  go_enter Tryd.func73, Tryd.ntmps73
  go_wp2
  go_loop [3, 4] (fun d i => ∃ k : Nat, k ≤ N ∧ i = .int .i64 k ∧ d = .int .u64 (sumB 14695981039346656037 (l.take k))) (fun _ i => N - (intOf i).toNat)
  case atStart => exact ⟨0, by omega, rfl, rfl⟩
  case round =>
    obtain ⟨k, hk, rfl, rfl⟩ := hrel
    by_cases hlt : k < N
    · obtain ⟨b, off, hA, hbs, hc⟩ := H_hl.out k (by rw [H_hN.out]; exact hlt)
      have hB := H_hb.out k
      have hB1 := hB.1
      have hB2 := hB.2
      have hs := sumB_take_succ 14695981039346656037 l k (by rw [H_hN.out]; exact hlt)
      subst hA
      generalize l.getD k 0 = x at *
      generalize sumB 14695981039346656037 (l.take k) = D at *
      have ⟨H_hs, H_hB⟩ := hid2 hs hB; clear hs hB
      go_wp2
      go_round
      case rel => exact ⟨k + 1, by omega, by go_num, by rw [H_hs.out]; rfl⟩
      case measure => simp [intOf]; omega
    · have ht : l.take k = l := List.take_of_length_le (by rw [H_hN.out]; omega)
      rw [ht]
      have H_ht := Lib.hid ht; clear ht
      go_wp2
      go_ret
      exact ⟨rfl, rfl⟩
theorem run_str (w : World) (A : Option Addr) (l : List Int) (c : Nat) (h : IntsAt w A .u8 l) :
    (convert 110 9 (.slice A l.length c)).run Tryd.prog w = .ok (.string (strOfNums l)) w := by
  cases l with
  | nil =>
    cases A with
    | none => exact run_convert_bytes_nil w _ _ Tryd.underlying110 Tryd.underlying5 0 c _ Tryd.underlying9
    | some a =>
      rw [run_convert_bytes_string w _ _ _ _ _ c Tryd.underlying110 Tryd.underlying5 Tryd.underlying9]
      have := run_bytesToString (P := Tryd.prog) w a 0 c [] (by simp [loadCells, loadCellsFrom])
      exact this
  | cons x r =>
    obtain ⟨b, off, rfl, _⟩ := h 0 (by simp)
    refine run_convert_bytes_arg w _ _ Tryd.underlying110 Tryd.underlying5 b off (x :: r).length c (x :: r) rfl (fun i hi => ?_) _ Tryd.underlying9
    obtain ⟨b', off', e, _, hc⟩ := h i hi
    injection e with e
    injection e with e1 e2
    subst e1 e2
    exact hc
/-- the digits of a number, the last one first -/
def revD : Nat → List Int
  | u => if h : u = 0 then [] else (48 + (u : Int) % 10) :: revD (u / 10)
termination_by u => u
decreasing_by omega
theorem revD_zero : revD 0 = [] := by rw [revD]; simp
theorem revD_pos {u : Nat} (h : u ≠ 0) : revD u = (48 + (u : Int) % 10) :: revD (u / 10) := by rw [revD]; simp [h]
theorem revD_dec : ∀ (k u : Nat), u < k → u ≠ 0 → (revD u).reverse = (Lib.decDigits u).map fun b => (b.toNat : Int)
  | 0, u, h, _ => by omega
  | k + 1, u, h, h0 => by
    have e : ∀ d : Nat, d < 10 → (((UInt8.ofNat (48 + d)).toNat : Nat) : Int) = 48 + (d : Int) := fun d hd => by
      have : (UInt8.ofNat (48 + d)).toNat = 48 + d := by simp; omega
      rw [this]; omega
    rw [revD_pos h0, Lib.decDigits]
    by_cases h1 : u < 10
    · have h2 : u / 10 = 0 := by omega
      have h3 : u % 10 = u := by omega
      rw [h2, revD_zero, dif_pos h1]
      have := e u h1
      simp only [List.reverse_cons, List.reverse_nil, List.nil_append, List.map_cons, List.map_nil, this]
      congr 1; omega
    · have ih := revD_dec k (u / 10) (by omega) (by omega)
      have := e (u % 10) (by omega)
      rw [dif_neg h1, List.map_append, ← ih]
      simp only [List.reverse_cons, List.map_cons, List.map_nil, this]
      rfl
theorem dec_pos {n : Int} (h : 0 < n) : decB n = (revD n.toNat).reverse := by
  rw [revD_dec _ _ (Nat.lt_succ_self _) (by omega), decB, Lib.itoa, if_neg (by omega)]
theorem dec_neg {n : Int} (h : n < 0) : decB n = (revD n.natAbs ++ [45]).reverse := by
  rw [List.reverse_append, revD_dec _ _ (Nat.lt_succ_self _) (by omega), decB, Lib.itoa, if_pos (by omega)]
  rfl
theorem revD_len (k u : Nat) (h : u < 10 ^ k) : (revD u).length ≤ k := by
  induction k generalizing u with
  | zero => have : u = 0 := by simpa using h
            subst this; simp [revD_zero]
  | succ k ih =>
    by_cases h0 : u = 0
    · subst h0; simp [revD_zero]
    · rw [revD_pos h0, List.length_cons]
      have := ih (u / 10) (by rw [Nat.pow_succ] at h; omega)
      omega
theorem revD_mem : ∀ (k u : Nat), u < k → ∀ x ∈ revD u, 45 ≤ x ∧ x ≤ 57
  | 0, u, h, _, _ => by omega
  | k + 1, u, h, x, hx => by
    by_cases h0 : u = 0
    · subst h0; rw [revD_zero] at hx; cases hx
    · rw [revD_pos h0] at hx
      rcases List.mem_cons.1 hx with rfl | h1
      · omega
      · exact revD_mem k (u / 10) (by omega) x h1
theorem str_dec (n : Int) : strOfNums (decB n) = txt n := by
  have : ((decB n).map fun x => UInt8.ofNat x.toNat) = Lib.itoa n := by
    rw [decB, List.map_map]
    conv => rhs; rw [← List.map_id (Lib.itoa n)]
    apply List.map_congr_left
    intro b _
    simp
  rw [strOfNums, this]; rfl
theorem rev_getD (L : List Int) (k : Nat) (h : k < L.length) : L.reverse.getD k 0 = L.getD (L.length - 1 - k) 0 := by
  simp [List.getD_eq_getElem?_getD, List.getElem?_reverse h]
theorem tmod_neg (M : Nat) : (-(M : Int)).tmod 10 = -((M : Int) % 10) := by rw [Int.neg_tmod]; congr 1
theorem tdiv_neg (M : Nat) : (-(M : Int)).tdiv 10 = -((M / 10 : Nat) : Int) := by rw [Int.neg_tdiv]; congr 1
set_option maxHeartbeats 4000000 in
theorem dec_loop_pos (n : Int) (w : World) (h1 : 0 < n) (h2 : n ≤ 9223372036854775807) :
    Calls Tryd.prog 83 #[.int .i64 n] w fun e w' => e = .returned (.string (txt n)) ∧ Below w.heap.size w w' := by
  obtain ⟨i0, hi, hz0, hz1, hz2⟩ := info_parts infoU8
  obtain ⟨u, rfl⟩ := Int.eq_ofNat_of_zero_le (Int.le_of_lt h1)
  have hdec := dec_pos h1
  rw [Int.toNat_natCast] at hdec
  have hlen := revD_len 20 u (by omega)
  have hb0 : ((u : Int) == 0) = false := by rw [beq_eq_false_iff_ne]; omega
  have hneg : decide ((u : Int) < 0) = false := by simp
  have hrm := revD_mem _ u (Nat.lt_succ_self _)
  generalize hR : revD u = R at *
  have hst := str_dec (u : Int)
  generalize hTX : txt (u : Int) = TX at *
  generalize hDB : decB (u : Int) = DB at *
  have hu : u ≤ 9223372036854775808 := by omega
  have ⟨H_hdec, H_hR, H_hlen, H_hrm, H_hst, H_hTX, H_hDB⟩ := hid7 hdec hR hlen hrm hst hTX hDB; clear hdec hR hlen hrm hst hTX hDB
  go_enter Tryd.func83, Tryd.ntmps83
  go_wp2_with fail
  go_loopw [3, 4] (fun b m wr => ∃ (B : Option Addr) (d : Nat) (l2 : List Int) (M : Nat), b = .slice B l2.length d ∧ m = .int .i64 (M : Int) ∧ M ≤ u ∧ OwnInts wr w.heap.size 5 .u8 B d l2 ∧ l2 ++ revD M = R ∧ Below w.heap.size w wr) (fun _ m _ => (intOf m).natAbs)
  case atStart => exact ⟨none, 0, [], u, rfl, rfl, Nat.le_refl _, OwnInts.nil _ _ _ _, H_hR.out, Below.refl _ _⟩
  case round =>
    obtain ⟨B, d, l2, M, rfl, rfl, hM, ho, hv, hbw⟩ := hrel
    have hll : l2.length ≤ 20 := by have := congrArg List.length hv; have := H_hlen.out; simp at *; omega
    have hsz := hbw.size
    by_cases h0 : M = 0
    · rw [h0, revD_zero, List.append_nil] at hv
      subst hv
      have hM0 : (M : Int) = 0 := by omega
      rw [hM0]
      clear hM0
      obtain ⟨L, hL⟩ : ∃ L, L = l2 := ⟨_, rfl⟩
      have hLd : DB = L.reverse := by rw [hL]; exact H_hdec.out
      have hLm : ∀ x ∈ L, 45 ≤ x ∧ x ≤ 57 := by rw [hL]; exact H_hrm.out
      rw [← hL] at ho hll ⊢
      clear hL
      obtain ⟨N, hN⟩ : ∃ N, L.length = N := ⟨_, rfl⟩
      have hN21 : N ≤ 21 := by omega
      have hi1 := ho.ints
      have hcp := ho.cap
      rw [hN] at hcp hll ⊢
      have hbw1 := hbw
      have ⟨H_ho, H_hbw, H_hi1, H_hLd, H_hLm, H_hN, H_hbw1⟩ := hid7 ho hbw hi1 hLd hLm hN hbw1; clear ho hbw hi1 hLd hLm hN hbw1
      obtain ⟨w1, hw1⟩ : ∃ w1, w1 = wr := ⟨_, rfl⟩
      rw [← hw1] at H_hi1 H_hbw1 hsz ⊢
      have hsz1 := hsz
      clear hw1 H_hbw H_ho
      go_wp2_with fail
      go_loopw [6, 7] (fun b i ws => ∃ (k : Nat) (B2 : Option Addr) (d2 : Nat), k ≤ N ∧ i = .int .i64 ((N : Int) - 1 - k) ∧ b = .slice B2 k d2 ∧ OwnInts ws w1.heap.size 5 .u8 B2 d2 (L.reverse.take k) ∧ Below w1.heap.size w1 ws) (fun _ i _ => (intOf i + 1).toNat)
      case atStart => exact ⟨0, none, 0, by omega, by congr 1; omega, rfl, OwnInts.nil _ _ _ _, Below.refl _ _⟩
      case round =>
        obtain ⟨k, B2, d2, hk, rfl, rfl, ho2, hb2⟩ := hrel
        have hs2 := hb2.size
        have htl : (L.reverse.take k).length = k := by simp [H_hN.out]; omega
        by_cases hlt : k < N
        · obtain ⟨b, off, hA, hbs, hc⟩ := (H_hi1.out.below hb2) (N - 1 - k) (by rw [H_hN.out]; omega)
          have hrv := rev_getD L k (by rw [H_hN.out]; exact hlt)
          rw [H_hN.out] at hrv
          have hsn := take_snocD L.reverse k 0 (by rw [List.length_reverse, H_hN.out]; exact hlt)
          rw [hrv] at hsn
          generalize L.getD (N - 1 - k) 0 = x at *
          have i1 : (0 : Int) ≤ (N : Int) - 1 - k := by omega
          have i2 : (N : Int) - 1 - k < (N : Int) := by omega
          have i4 : (k : Int) ≤ (N : Int) - 1 := by omega
          have i3 : ((N : Int) - 1 - k).toNat = N - 1 - k := by omega
          subst hA
          have ⟨H_ho2, H_hb2, H_htl, H_hrv, H_hsn⟩ := hid5 ho2 hb2 htl hrv hsn; clear ho2 hb2 htl hrv hsn
          go_wp2_with (at_builtin; refine wp_app_at _ rfl (.tmp 39) (.tmp 44) _ rfl w1.heap.size 5 i0 _ 1 Tryd.underlying110 hi hz0 hz1 hz2 rfl .u8 B2 d2 k (L.reverse.take k) H_htl.out rfl (H_ho2.out.alloc _) (some ⟨wr.heap.size, 0, none⟩) 1 1 [x] rfl rfl (ints_new1 _ _ _ _ _ rfl) ?_ ?_ ?_ ?_)
          · omega
          · omega
          · first | omega | (simp; omega)
          intro B' d' w3 ho3 hg3 hB3
          have hb3 := (H_ho2.out.alloc (.cells #[.int .u8 x] 5)).grow (H_hb2.out.alloc hs2 _) hg3
          have ⟨H_ho3, H_hg3, H_hB3, H_hb3⟩ := hid4 ho3 hg3 hB3 hb3; clear ho3 hg3 hB3 hb3
          go_wp2_with fail
          go_roundw
          case rel => exact ⟨k + 1, B', d', by omega, by congr 1; omega, rfl, by rw [H_hsn.out]; exact H_ho3.out, H_hb3.out⟩
          case measure => simp [intOf]; omega
        · have hall : L.reverse.take k = L.reverse := List.take_of_length_le (by simp [H_hN.out]; omega)
          rw [hall] at ho2 htl
          have hkN : k = N := by omega
          have i1 : ¬ (0 : Int) ≤ (N : Int) - 1 - k := by omega
          have i4 : ¬ (k : Int) ≤ (N : Int) - 1 := by omega
          have hrs := run_str wr B2 L.reverse d2 ho2.ints
          rw [htl, ← H_hLd.out, H_hst.out] at hrs
          have ⟨H_ho2, H_hb2, H_htl, H_hall, H_hkN⟩ := hid5 ho2 hb2 htl hall hkN; clear ho2 hb2 htl hall hkN
          go_wp2_with fail
          go_ret
          exact ⟨rfl, H_hbw1.out.trans (H_hb2.out.mono hsz1)⟩
    · have hne : ((M : Int) != 0) = true := by rw [bne_iff_ne]; omega
      rw [revD_pos h0] at hv
      have hd0 : ¬ (M : Int) % 10 < 0 := by omega
      have e256 : (48 + (M : Int) % 10) % 256 = 48 + (M : Int) % 10 := by omega
      have ⟨H_ho, H_hv, H_hbw⟩ := hid3 ho hv hbw; clear ho hv hbw
      go_wp2_with (at_builtin; refine wp_app_ints _ rfl (.tmp 21) (.tmp 25) _ rfl w.heap.size 5 i0 _ 1 Tryd.underlying110 hi hz0 hz1 hz2 rfl .u8 B d l2 rfl (H_ho.out.alloc _) (some ⟨wr.heap.size, 0, none⟩) 1 [48 + (M : Int) % 10] rfl (ints_new1 _ _ _ _ _ rfl) ?_ ?_ ?_ ?_)
      · first | omega | (simp; omega)
      · first | omega | (simp; omega)
      · first | omega | (simp; omega)
      intro B' d' w2 ho2 hg2 hB2
      have hb2 := (H_ho.out.alloc (.cells #[.int .u8 (48 + (M : Int) % 10)] 5)).grow (H_hbw.out.alloc hsz _) hg2
      have ⟨H_ho2, H_hg2, H_hB2, H_hb2⟩ := hid4 ho2 hg2 hB2 hb2; clear ho2 hg2 hB2 hb2
      go_wp2_with fail
      go_roundw
      case rel =>
        refine ⟨B', d', l2 ++ [48 + (M : Int) % 10], M / 10, by simp, by go_num, by omega, H_ho2.out, ?_, H_hb2.out⟩
        rw [← H_hv.out]; simp
      case measure => simp [intOf]; omega
set_option maxHeartbeats 4000000 in
theorem dec_loop_neg (n : Int) (w : World) (h1 : n < 0) (h2 : -9223372036854775808 ≤ n) :
    Calls Tryd.prog 83 #[.int .i64 n] w fun e w' => e = .returned (.string (txt n)) ∧ Below w.heap.size w w' := by
  obtain ⟨i0, hi, hz0, hz1, hz2⟩ := info_parts infoU8
  obtain ⟨u, rfl⟩ : ∃ u : Nat, n = -(u : Int) := ⟨n.natAbs, by omega⟩
  have hdec := dec_neg h1
  rw [Int.natAbs_neg, Int.natAbs_natCast] at hdec
  have hlen := revD_len 20 u (by omega)
  have hb0 : (-(u : Int) == 0) = false := by rw [beq_eq_false_iff_ne]; omega
  have hneg : decide (-(u : Int) < 0) = true := by simp; omega
  have hrm := revD_mem _ u (Nat.lt_succ_self _)
  generalize hR : revD u = R at *
  have hst := str_dec (-(u : Int))
  generalize hTX : txt (-(u : Int)) = TX at *
  generalize hDB : decB (-(u : Int)) = DB at *
  have hu : u ≤ 9223372036854775808 := by omega
  have ⟨H_hdec, H_hR, H_hlen, H_hrm, H_hst, H_hTX, H_hDB⟩ := hid7 hdec hR hlen hrm hst hTX hDB; clear hdec hR hlen hrm hst hTX hDB
  go_enter Tryd.func83, Tryd.ntmps83
  go_wp2_with fail
  go_loopw [3, 4] (fun b m wr => ∃ (B : Option Addr) (d : Nat) (l2 : List Int) (M : Nat), b = .slice B l2.length d ∧ m = .int .i64 (-(M : Int)) ∧ M ≤ u ∧ OwnInts wr w.heap.size 5 .u8 B d l2 ∧ l2 ++ revD M = R ∧ Below w.heap.size w wr) (fun _ m _ => (intOf m).natAbs)
  case atStart => exact ⟨none, 0, [], u, rfl, rfl, Nat.le_refl _, OwnInts.nil _ _ _ _, H_hR.out, Below.refl _ _⟩
  case round =>
    obtain ⟨B, d, l2, M, rfl, rfl, hM, ho, hv, hbw⟩ := hrel
    have hll : l2.length ≤ 20 := by have := congrArg List.length hv; have := H_hlen.out; simp at *; omega
    have hsz := hbw.size
    by_cases h0 : M = 0
    · rw [h0, revD_zero, List.append_nil] at hv
      subst hv
      have hM0 : (-(M : Int)) = 0 := by omega
      rw [hM0]
      clear hM0
      have ⟨H_ho, H_hbw⟩ := hid2 ho hbw; clear ho hbw
      go_wp2_with (at_builtin; refine wp_app_ints _ rfl (.tmp 29) (.tmp 30) _ rfl w.heap.size 5 i0 _ 1 Tryd.underlying110 hi hz0 hz1 hz2 rfl .u8 B d l2 rfl (H_ho.out.alloc _) (some ⟨wr.heap.size, 0, none⟩) 1 [45] rfl (ints_new1 _ _ _ _ _ rfl) ?_ ?_ ?_ ?_)
      · first | omega | (simp; omega)
      · first | omega | (simp; omega)
      · first | omega | (simp; omega)
      intro B d w1 ho1 hg1 hB1
      have hbw1 := (H_ho.out.alloc (.cells #[.int .u8 45] 5)).grow (H_hbw.out.alloc hsz _) hg1
      obtain ⟨L, hL⟩ : ∃ L, L = l2 ++ [45] := ⟨_, rfl⟩
      have hLd : DB = L.reverse := by rw [hL]; exact H_hdec.out
      have hLm : ∀ x ∈ L, 45 ≤ x ∧ x ≤ 57 := by
        rw [hL]; intro x hx
        rcases List.mem_append.1 hx with h | h
        · exact H_hrm.out x h
        · have : x = 45 := by simpa using h
          omega
      rw [← hL] at ho1
      have hll1 : L.length ≤ 21 := by rw [hL]; simp; omega
      obtain ⟨N, hN⟩ : ∃ N, L.length = N := ⟨_, rfl⟩
      have hl2N : l2.length + 1 = N := by rw [← hN, hL]; simp
      rw [hl2N]
      clear hL hl2N
      have hN21 : N ≤ 21 := by omega
      have hi1 := ho1.ints
      have hcp := ho1.cap
      rw [hN] at hcp hll1
      have hsz1 := hbw1.size
      clear hg1 hB1
      have ⟨H_ho1, H_hbw1, H_hi1, H_hLd, H_hLm, H_hN⟩ := hid6 ho1 hbw1 hi1 hLd hLm hN; clear ho1 hbw1 hi1 hLd hLm hN
      go_wp2_with fail
      go_loopw [6, 7] (fun b i ws => ∃ (k : Nat) (B2 : Option Addr) (d2 : Nat), k ≤ N ∧ i = .int .i64 ((N : Int) - 1 - k) ∧ b = .slice B2 k d2 ∧ OwnInts ws w1.heap.size 5 .u8 B2 d2 (L.reverse.take k) ∧ Below w1.heap.size w1 ws) (fun _ i _ => (intOf i + 1).toNat)
      case atStart => exact ⟨0, none, 0, by omega, by congr 1; omega, rfl, OwnInts.nil _ _ _ _, Below.refl _ _⟩
      case round =>
        obtain ⟨k, B2, d2, hk, rfl, rfl, ho2, hb2⟩ := hrel
        have hs2 := hb2.size
        have htl : (L.reverse.take k).length = k := by simp [H_hN.out]; omega
        by_cases hlt : k < N
        · obtain ⟨b, off, hA, hbs, hc⟩ := (H_hi1.out.below hb2) (N - 1 - k) (by rw [H_hN.out]; omega)
          have hrv := rev_getD L k (by rw [H_hN.out]; exact hlt)
          rw [H_hN.out] at hrv
          have hsn := take_snocD L.reverse k 0 (by rw [List.length_reverse, H_hN.out]; exact hlt)
          rw [hrv] at hsn
          generalize L.getD (N - 1 - k) 0 = x at *
          have i1 : (0 : Int) ≤ (N : Int) - 1 - k := by omega
          have i2 : (N : Int) - 1 - k < (N : Int) := by omega
          have i4 : (k : Int) ≤ (N : Int) - 1 := by omega
          have i3 : ((N : Int) - 1 - k).toNat = N - 1 - k := by omega
          subst hA
          have ⟨H_ho2, H_hb2, H_htl, H_hrv, H_hsn⟩ := hid5 ho2 hb2 htl hrv hsn; clear ho2 hb2 htl hrv hsn
          go_wp2_with (at_builtin; refine wp_app_at _ rfl (.tmp 39) (.tmp 44) _ rfl w1.heap.size 5 i0 _ 1 Tryd.underlying110 hi hz0 hz1 hz2 rfl .u8 B2 d2 k (L.reverse.take k) H_htl.out rfl (H_ho2.out.alloc _) (some ⟨wr.heap.size, 0, none⟩) 1 1 [x] rfl rfl (ints_new1 _ _ _ _ _ rfl) ?_ ?_ ?_ ?_)
          · omega
          · omega
          · first | omega | (simp; omega)
          intro B' d' w3 ho3 hg3 hB3
          have hb3 := (H_ho2.out.alloc (.cells #[.int .u8 x] 5)).grow (H_hb2.out.alloc hs2 _) hg3
          have ⟨H_ho3, H_hg3, H_hB3, H_hb3⟩ := hid4 ho3 hg3 hB3 hb3; clear ho3 hg3 hB3 hb3
          go_wp2_with fail
          go_roundw
          case rel => exact ⟨k + 1, B', d', by omega, by congr 1; omega, rfl, by rw [H_hsn.out]; exact H_ho3.out, H_hb3.out⟩
          case measure => simp [intOf]; omega
        · have hall : L.reverse.take k = L.reverse := List.take_of_length_le (by simp [H_hN.out]; omega)
          rw [hall] at ho2 htl
          have hkN : k = N := by omega
          have i1 : ¬ (0 : Int) ≤ (N : Int) - 1 - k := by omega
          have i4 : ¬ (k : Int) ≤ (N : Int) - 1 := by omega
          have hrs := run_str wr B2 L.reverse d2 ho2.ints
          rw [htl, ← H_hLd.out, H_hst.out] at hrs
          have ⟨H_ho2, H_hb2, H_htl, H_hall, H_hkN⟩ := hid5 ho2 hb2 htl hall hkN; clear ho2 hb2 htl hall hkN
          go_wp2_with fail
          go_ret
          exact ⟨rfl, H_hbw1.out.trans (H_hb2.out.mono hsz1)⟩
    · have hne : ((-(M : Int)) != 0) = true := by rw [bne_iff_ne]; omega
      rw [revD_pos h0] at hv
      have e1 := tmod_neg M
      have e2 := tdiv_neg M
      have hMM : 0 ≤ (M : Int) % 10 ∧ (M : Int) % 10 ≤ 9 := by omega
      generalize hr : (M : Int) % 10 = r at *
      have hr1 := hMM.1
      have hr2 := hMM.2
      by_cases hz : r = 0
      · subst hz
        rw [Int.neg_zero] at e1
        have ⟨H_ho, H_hv, H_hbw, H_hr, H_hMM⟩ := hid5 ho hv hbw hr hMM; clear ho hv hbw hr hMM
        go_wp2_with (at_builtin; refine wp_app_ints _ rfl (.tmp 21) (.tmp 25) _ rfl w.heap.size 5 i0 _ 1 Tryd.underlying110 hi hz0 hz1 hz2 rfl .u8 B d l2 rfl (H_ho.out.alloc _) (some ⟨wr.heap.size, 0, none⟩) 1 [48] rfl (ints_new1 _ _ _ _ _ rfl) ?_ ?_ ?_ ?_)
        · first | omega | (simp; omega)
        · first | omega | (simp; omega)
        · first | omega | (simp; omega)
        intro B' d' w2 ho2 hg2 hB2
        have hb2 := (H_ho.out.alloc (.cells #[.int .u8 48] 5)).grow (H_hbw.out.alloc hsz _) hg2
        have ⟨H_ho2, H_hg2, H_hB2, H_hb2⟩ := hid4 ho2 hg2 hB2 hb2; clear ho2 hg2 hB2 hb2
        go_wp2_with fail
        go_roundw
        case rel =>
          refine ⟨B', d', l2 ++ [48], M / 10, by simp, by go_num, by omega, H_ho2.out, ?_, H_hb2.out⟩
          rw [← H_hv.out]; simp
        case measure => simp [intOf]; omega
      · have hlt : decide (-r < 0) = true := by simp; omega
        have ⟨H_ho, H_hv, H_hbw, H_hr, H_hMM⟩ := hid5 ho hv hbw hr hMM; clear ho hv hbw hr hMM
        go_wp2_with (at_builtin; refine wp_app_ints _ rfl (.tmp 21) (.tmp 25) _ rfl w.heap.size 5 i0 _ 1 Tryd.underlying110 hi hz0 hz1 hz2 rfl .u8 B d l2 rfl (H_ho.out.alloc _) (some ⟨wr.heap.size, 0, none⟩) 1 [48 + r] rfl (ints_new1 _ _ _ _ _ rfl) ?_ ?_ ?_ ?_)
        · first | omega | (simp; omega)
        · first | omega | (simp; omega)
        · first | omega | (simp; omega)
        intro B' d' w2 ho2 hg2 hB2
        have hb2 := (H_ho.out.alloc (.cells #[.int .u8 (48 + r)] 5)).grow (H_hbw.out.alloc hsz _) hg2
        have ⟨H_ho2, H_hg2, H_hB2, H_hb2⟩ := hid4 ho2 hg2 hB2 hb2; clear ho2 hg2 hB2 hb2
        go_wp2_with fail
        go_roundw
        case rel =>
          refine ⟨B', d', l2 ++ [48 + r], M / 10, by simp, by go_num, by omega, H_ho2.out, ?_, H_hb2.out⟩
          rw [← H_hv.out]; simp
        case measure => simp [intOf]; omega
theorem decimal_zero (w : World) : Calls Tryd.prog 83 #[.int .i64 0] w fun e w' => e = .returned (.string (txt 0)) ∧ Below w.heap.size w w' := by
  have hb0 : ((0 : Int) == 0) = true := rfl
  have h0 : txt 0 = ⟨#[48]⟩ := by
    have : Lib.itoa 0 = [48] := by rw [Lib.itoa, if_neg (by omega), Lib.decDigits]; rfl
    rw [txt, this]
  rw [h0]
  clear h0
  go_enter Tryd.func83, Tryd.ntmps83
  go_wp2_with fail
  go_ret
  exact ⟨rfl, Below.refl _ _⟩
theorem decimal_any (n : Int) (w : World) (h : -9223372036854775808 ≤ n ∧ n ≤ 9223372036854775807) :
    Calls Tryd.prog 83 #[.int .i64 n] w fun e w' => e = .returned (.string (txt n)) ∧ Below w.heap.size w w' := by
  rcases Int.lt_trichotomy n 0 with h1 | rfl | h1
  · exact dec_loop_neg n w h1 h.1
  · exact decimal_zero w
  · exact dec_loop_pos n w h1 h.2
theorem wp_app_txt (w : World) {ops : Array Oper} {rest : List Oper} {o : Oper} {a : Act} {Q : Exit → Act → World → Prop} (hgd : o.guard = none) (s x : Operand)
    (ho : o.op = .call { callee := .builtin .append, args := #[s, x], argTypes := #[110, 9] })
    (base : Nat) (A : Option Addr) (c n : Nat) (l : List Int) (hln : l.length = n) (hs : a.eval s = .slice A n c) (hown : OwnInts w base 5 .u8 A c l) (v : Int) (hx : a.eval x = .string (txt v))
    (h63 : n + (decB v).length ≤ 100000000) (hbase : base ≤ w.heap.size)
    (h : ∀ A' c' w', OwnInts w' base 5 .u8 A' c' (l ++ decB v) → w.grownBy w' (blockOf A) → wpList Tryd.prog ops Q rest (a.put o.dst (.slice A' (n + (decB v).length) c')) w') : wpList Tryd.prog ops Q (o :: rest) a w := by
  obtain ⟨i0, hi, hz0, hz1, hz2⟩ := info_parts infoU8
  subst hln
  refine Lib.wpList_append_own_string w hgd s x _ _ ho base 5 i0 Tryd.underlying110 Tryd.underlying9 hi hz0 hz1 hz2 (.slice A l.length c) l.length (l.map (Value.int .u8)) hs hown (txt v) hx (by rw [txt_size]; unfold maxLen; omega) (by rw [txt_size]; omega) hbase ?_
  intro v' w' h1 h2 _
  have e : Lib.strCells (txt v) = (decB v).map (Value.int .u8) := by simp [Lib.strCells, decB, txt]
  rw [e, ← List.map_append, txt_size, ← List.length_append] at h1
  have hv : ∃ A' c', v' = .slice A' (l ++ decB v).length c' := by
    rcases h1.2 with ⟨hv, hn⟩ | ⟨g, cap, cur, hv, _⟩
    · exact ⟨none, 0, by rw [hv, hn]⟩
    · exact ⟨_, cap, hv⟩
  obtain ⟨A', c', rfl⟩ := hv
  rw [ownBlock_slice] at h2
  rw [List.length_append]
  refine h A' c' w' ?_ h2
  exact h1
theorem wordsB_len (l : List Int) (h : Fit l) : (wordsB l).length ≤ 22 * l.length := by
  induction l with
  | nil => simp [wordsB]
  | cons x r ih =>
    have h1 := decB_len x (h x (by simp))
    have h2 := ih fun y hy => h y (by simp [hy])
    simp [wordsB] at h2 ⊢; omega
theorem wordsB_bytes (l : List Int) : ∀ x ∈ wordsB l, 0 ≤ x ∧ x ≤ 255 := fun x hx => by
  simp only [wordsB, List.mem_flatMap, List.mem_append] at hx
  obtain ⟨n, _, h | h⟩ := hx
  · have := decB_mem n x h; omega
  · have : x = 32 := by simpa using h
    omega
theorem textB_bytes (d : Int) (l : List Int) : ∀ x ∈ textB d l, 0 ≤ x ∧ x ≤ 255 := fun x hx => by
  rcases List.mem_append.1 hx with h | h
  · exact hi8_bytes d x h
  · exact wordsB_bytes l x h
theorem textB_len (d : Int) (l : List Int) (h : Fit l) : (textB d l).length ≤ 8 + 22 * l.length := by
  have := wordsB_len l h
  simp [textB, hi8_len]; omega
set_option maxHeartbeats 2000000 in
theorem refText_any (d : Int) (A : Option Addr) (c : Nat) (l : List Int) (w : World) (hd : 0 ≤ d ∧ d ≤ 18446744073709551615) (hl : IntsAt w A .i64 l) (hn : l.length ≤ 1000000) (hb : Fit l) :
    Calls Tryd.prog 81 #[.int .u64 d, .slice A l.length c] w fun e w' => ∃ A' c', e = .returned (.slice A' (textB d l).length c') ∧ OwnInts w' w.heap.size 5 .u8 A' c' (textB d l) ∧ Below w.heap.size w w' := by
  obtain ⟨i0, hi, hz0, hz1, hz2⟩ := info_parts infoU8
  have hd0 := hd.1
  have hd1 := hd.2
  have hwl : ∀ k, (wordsB (l.take k)).length ≤ 22 * l.length := fun k => by
    have h1 := wordsB_len (l.take k) fun x hx => hb x (List.mem_of_mem_take hx)
    have h2 : (l.take k).length ≤ l.length := List.length_take_le' _ _
    omega
  generalize hN : l.length = N at *
  have ⟨H_hl, H_hb, H_hN, H_hd, H_hwl⟩ := hid5 hl hb hN hd hwl; clear hl hb hN hd hwl
  go_enter Tryd.func81, Tryd.ntmps81
  go_wp2_with fail
  go_loopw [5, 6] (fun b i wr => ∃ (k : Nat) (B : Option Addr) (e : Nat), k ≤ 8 ∧ i = .int .i64 k ∧ b = .slice B k e ∧ OwnInts wr w.heap.size 5 .u8 B e ((hi8 d).take k) ∧ Below w.heap.size w wr) (fun _ i _ => 8 - (intOf i).toNat)
  case atStart => exact ⟨0, none, 0, by omega, rfl, rfl, OwnInts.nil _ _ _ _, Below.refl _ _⟩
  case round =>
    obtain ⟨k, B, e, hk, rfl, rfl, ho, hbw⟩ := hrel
    have hsz := hbw.size
    by_cases hlt : k < 8
    · have htl : ((hi8 d).take k).length = k := by simp [hi8_len]; omega
      have hsn := take_snocD (hi8 d) k 0 (by rw [hi8_len]; exact hlt)
      rw [hi8_get d k hlt] at hsn
      have g0 : (0 : Int) ≤ 56 - 8 * (k : Int) := by omega
      have g1 : (56 - 8 * (k : Int)).toNat = 56 - 8 * k := by omega
      have g2 : 8 * (k : Int) ≤ 56 := by omega
      have ⟨H_ho, H_hbw, H_htl, H_hsn⟩ := hid4 ho hbw htl hsn; clear ho hbw htl hsn
      go_wp2_with (at_builtin; refine wp_app_at _ rfl (.tmp 12) (.tmp 19) _ rfl w.heap.size 5 i0 _ 1 Tryd.underlying110 hi hz0 hz1 hz2 rfl .u8 B e k _ H_htl.out rfl (H_ho.out.alloc _) (some ⟨wr.heap.size, 0, none⟩) 1 1 [d / 2 ^ (56 - 8 * k) % 256] rfl rfl (ints_new1 _ _ _ _ _ rfl) ?_ ?_ ?_ ?_)
      · omega
      · omega
      · simp; omega
      intro B' e' w2 ho2 hg2 hB2
      have hb2 := (H_ho.out.alloc (.cells #[.int .u8 (d / 2 ^ (56 - 8 * k) % 256)] 5)).grow (H_hbw.out.alloc hsz _) hg2
      have ⟨H_ho2, H_hg2, H_hB2, H_hb2⟩ := hid4 ho2 hg2 hB2 hb2; clear ho2 hg2 hB2 hb2
      go_wp2_with fail
      go_roundw
      case rel => exact ⟨k + 1, B', e', by omega, by go_num, rfl, by rw [H_hsn.out]; exact H_ho2.out, H_hb2.out⟩
      case measure => simp [intOf]; omega
    · have h8 : k = 8 := by omega
      have hall : (hi8 d).take k = hi8 d := List.take_of_length_le (by rw [hi8_len]; omega)
      rw [hall] at ho
      have hst : OwnInts wr w.heap.size 5 .u8 B e (hi8 d ++ wordsB (l.take 0)) := by simpa [wordsB] using ho
      have hH := hi8_len d
      have t1 : ¬ (k : Int) < 8 := by omega
      have hk8 : k = (hi8 d ++ wordsB (l.take 0)).length := by simp [wordsB, hH]; exact h8
      have ⟨H_ho, H_hbw, H_hall, H_hst, H_hH, H_h8, H_hk8⟩ := hid7 ho hbw hall hst hH h8 hk8; clear ho hbw hall hst hH h8 hk8
      go_wp2_with fail
      go_loopw [5, 7] (fun b i ws => ∃ (n : Nat) (B : Option Addr) (e : Nat), n ≤ N ∧ i = .int .i64 n ∧ b = .slice B (hi8 d ++ wordsB (l.take n)).length e ∧ OwnInts ws w.heap.size 5 .u8 B e (hi8 d ++ wordsB (l.take n)) ∧ Below w.heap.size w ws) (fun _ i _ => N - (intOf i).toNat)
      case atStart => exact ⟨0, B, e, by omega, rfl, by rw [← H_hk8.out], H_hst.out, H_hbw.out⟩
      case round =>
        obtain ⟨n, B2, e2, hn2, rfl, rfl, ho2, hb2⟩ := hrel
        have hs2 := hb2.size
        by_cases hln : n < N
        · obtain ⟨b, off, hA, hbl, hc⟩ := (H_hl.out.below hb2) n (by rw [H_hN.out]; exact hln)
          have hbd := int_bd H_hb.out n
          have hsn := wordsB_snoc l n (by rw [H_hN.out]; exact hln)
          have hwn := H_hwl.out n
          have i1 : (0 : Int) ≤ (n : Int) := by omega
          have i2 : (n : Int) < (N : Int) := by omega
          have hX1 : (hi8 d ++ wordsB (l.take n)).length ≤ 8 + 22 * N := by have := H_hH.out; simp; omega
          have hXs : hi8 d ++ wordsB (l.take (n + 1)) = hi8 d ++ wordsB (l.take n) ++ decB (l.getD n 0) ++ [32] := by rw [hsn]; simp
          generalize hX : hi8 d ++ wordsB (l.take n) = X at *
          generalize l.getD n 0 = x at *
          have hdl := decB_len x hbd
          have hcall := decimal_any x wr hbd
          subst hA
          have ⟨H_ho2, H_hb2, H_hbd, H_hsn, H_hwn, H_hX, H_hXs, H_hcall⟩ := hid8 ho2 hb2 hbd hsn hwn hX hXs hcall; clear ho2 hb2 hbd hsn hwn hX hXs hcall
          go_wp2_with fail
          refine H_hcall.out.mono ?_
          rintro e w3 ⟨rfl, hb3⟩
          have hs3 := hb3.size
          have ho3 := H_ho2.out.below hb3
          have hbb3 := H_hb2.out.trans (hb3.mono hs2)
          generalize hDL : (decB x).length = DL at *
          have ⟨H_hb3, H_ho3, H_hbb3, H_hDL⟩ := hid4 hb3 ho3 hbb3 hDL; clear hb3 ho3 hbb3 hDL
          go_wp2_with (at_builtin; refine wp_app_txt _ rfl (.tmp 27) (.tmp 32) rfl w.heap.size B2 e2 X.length X rfl rfl H_ho3.out x rfl ?_ ?_ ?_)
          · rw [H_hDL.out]; omega
          · omega
          rw [H_hDL.out]
          intro B4 e4 w4 ho4 hg4
          have hb4 := H_ho3.out.grow H_hbb3.out hg4
          have hs4 := hb4.size
          have hl4 : (X ++ decB x).length = X.length + DL := by rw [List.length_append, H_hDL.out]
          have ⟨H_ho4, H_hg4, H_hb4, H_hl4⟩ := hid4 ho4 hg4 hb4 hl4; clear ho4 hg4 hb4 hl4
          go_wp2_with (at_builtin; refine wp_app_at _ rfl (.tmp 34) (.tmp 35) _ rfl w.heap.size 5 i0 _ 1 Tryd.underlying110 hi hz0 hz1 hz2 rfl .u8 B4 e4 (X.length + DL) (X ++ decB x) H_hl4.out rfl (H_ho4.out.alloc _) (some ⟨w4.heap.size, 0, none⟩) 1 1 [32] rfl rfl (ints_new1 _ _ _ _ _ rfl) ?_ ?_ ?_ ?_)
          · omega
          · omega
          · simp; omega
          intro B5 e5 w5 ho5 hg5 hB5
          have hb5 := (H_ho4.out.alloc (.cells #[.int .u8 32] 5)).grow (H_hb4.out.alloc hs4 _) hg5
          have hl5 : X.length + DL + 1 = (X ++ decB x ++ [32]).length := by rw [List.length_append, H_hl4.out]; rfl
          have ⟨H_ho5, H_hg5, H_hB5, H_hb5, H_hl5⟩ := hid5 ho5 hg5 hB5 hb5 hl5; clear ho5 hg5 hB5 hb5 hl5
          go_wp2_with fail
          go_roundw
          case rel => exact ⟨n + 1, B5, e5, by omega, by go_num, by rw [H_hXs.out, H_hl5.out], by rw [H_hXs.out, List.append_assoc]; exact H_ho5.out, H_hb5.out⟩
          case measure => simp [intOf]; omega
        · have hal2 : l.take n = l := List.take_of_length_le (by rw [H_hN.out]; omega)
          rw [hal2] at ho2 ⊢
          have i2 : ¬ (n : Int) < (N : Int) := by omega
          change OwnInts wr w.heap.size 5 .u8 B2 e2 (textB d l) at ho2
          have ⟨H_ho2, H_hb2, H_hal2⟩ := hid3 ho2 hb2 hal2; clear ho2 hb2 hal2
          go_wp2_with fail
          go_ret
          exact ⟨B2, e2, ret_slice (by simp [textB]), H_ho2.out, H_hb2.out⟩
theorem refSum_at (A : Option Addr) (c n : Nat) (l : List Int) (hln : l.length = n) (w : World) (hl : IntsAt w A .u8 l) (hn : n ≤ 100000000) (hb : ∀ i, 0 ≤ l.getD i 0 ∧ l.getD i 0 ≤ 255) :
    Calls Tryd.prog 73 #[.slice A n c] w fun e w' => e = .returned (.int .u64 (sumB 14695981039346656037 l)) ∧ w = w' := by
  subst hln; exact refSum_any A c l w hl (by omega) hb
theorem refNext_any (d : Int) (A : Option Addr) (c : Nat) (l : List Int) (w : World) (hd : 0 ≤ d ∧ d ≤ 18446744073709551615) (hl : IntsAt w A .i64 l) (hn : l.length ≤ 1000000) (hb : Fit l) :
    Calls Tryd.prog 74 #[.int .u64 d, .slice A l.length c] w fun e w' => e = .returned (.int .u64 (nextB d l)) ∧ Below w.heap.size w w' := by
  have hc := refText_any d A c l w hd hl hn hb
  have htl := textB_len d l hb
  have htb := bytes_getD (textB_bytes d l)
  have fin : nextB d l = sumB 14695981039346656037 (textB d l) := rfl
  generalize hT : textB d l = T at *
  have ⟨H_hl, H_hb, H_hd, H_hc, H_htb, H_hT, H_fin⟩ := hid7 hl hb hd hc htb hT fin; clear hl hb hd hc htb hT fin
  go_enter Tryd.func74, Tryd.ntmps74
  go_wp2_with fail
  refine H_hc.out.mono ?_
  rintro e w1 ⟨B, b, rfl, ho, hb1⟩
  have hs := refSum_any B b T w1 ho.ints (by omega) H_htb.out
  have ⟨H_ho, H_hb1, H_hs⟩ := hid3 ho hb1 hs; clear ho hb1 hs
  go_wp2_with fail
  refine H_hs.out.mono ?_
  rintro e w2 ⟨rfl, rfl⟩
  go_wp2_with fail
  go_ret
  exact ⟨ret_int (by rw [H_fin.out]), H_hb1.out⟩
theorem refNext_at (d : Int) (A : Option Addr) (c n : Nat) (l : List Int) (hln : l.length = n) (w : World) (hd : 0 ≤ d ∧ d ≤ 18446744073709551615) (hl : IntsAt w A .i64 l) (hn : n ≤ 1000000) (hb : Fit l) :
    Calls Tryd.prog 74 #[.int .u64 d, .slice A n c] w fun e w' => e = .returned (.int .u64 (nextB d l)) ∧ Below w.heap.size w w' := by
  subst hln; exact refNext_any d A c l w hd hl hn hb
theorem refSum_val (A : Option Addr) (c n : Nat) (l : List Int) (hln : l.length = n) (v : Int) (hv : sumB 14695981039346656037 l = v) (w : World) (hl : IntsAt w A .u8 l) (hn : n ≤ 100000000) (hb : ∀ x ∈ l, 0 ≤ x ∧ x ≤ 255) :
    Calls Tryd.prog 73 #[.slice A n c] w fun e w' => e = .returned (.int .u64 v) ∧ w = w' := by
  subst hln hv; exact refSum_any A c l w hl (by omega) (bytes_getD hb)
theorem refNext_val (d : Int) (A : Option Addr) (c n : Nat) (l : List Int) (hln : l.length = n) (v : Int) (hv : nextB d l = v) (w : World) (hd : 0 ≤ d ∧ d ≤ 18446744073709551615) (hl : IntsAt w A .i64 l) (hn : n ≤ 1000000) (hb : Fit l) :
    Calls Tryd.prog 74 #[.int .u64 d, .slice A n c] w fun e w' => e = .returned (.int .u64 v) ∧ Below w.heap.size w w' := by
  subst hln hv; exact refNext_any d A c l w hd hl hn hb
section
open Go.RowKit Go.ChangeShapes Go.WideShapes Go.ChangeAt
theorem open_ints_at {H : Type} {enc : TypeId × Value → H} {P : Program} {W : World} {base : Nat} {held : Bool} {t e : TypeId} {k : IntKind} {v : Value} {d : DataW H} {p : List MemPlace} (ht : P.underlying t = some (.slice e)) (he : P.underlying e = some (.int k)) (hc : P.cellsOf e = 1)
    (hv : Value.okWide P W .any base t v) (h : DataW.Trod enc P W 0 (fun _ => true) held t v d p) :
    ∃ A c l, v = .slice A l.length c ∧ IntsAt W A k l ∧ l.length ≤ c ∧ c ≤ maxLen ∧ ∀ n ∈ l, (Lit.int k n).wf = true := by
  obtain ⟨a0, len, cap, rfl⟩ := okWide_slice ht hv
  obtain ⟨fuel, hf⟩ := h
  rcases open_ints ht he hc hf with ⟨hcs, _⟩ | ⟨a, len', cap', zs, hcs, _, hle, hmax, hall, _, hcell, hwf⟩
  · simp [Value.cells] at hcs
    obtain ⟨rfl, rfl, rfl⟩ := hcs
    exact ⟨none, 0, [], rfl, IntsAt.nil, by simp, by simp, by simp⟩
  · simp [Value.cells] at hcs
    obtain ⟨rfl, rfl, rfl⟩ := hcs
    simp only [if_true] at hall
    refine ⟨some a, cap, zs.take len, ?_, ?_, ?_, hmax, fun n hn => hwf n (List.mem_of_mem_take hn)⟩
    · congr 1; simp; omega
    · exact IntsAt.take (ints_of_cells hcell) len
    · simp; omega
theorem wf_u64 {n : Int} (h : (Lit.int .u64 n).wf = true) : 0 ≤ n ∧ n ≤ 18446744073709551615 := by
  rw [Lit.wf_int_iff] at h; exact h
end
theorem nat_beq (a b : Nat) : ((a : Int) == (b : Int)) = (a == b) := by rw [Bool.eq_iff_iff, beq_iff_eq, beq_iff_eq]; omega
theorem cast_mod (n b m : Nat) : (n : Int) * (b : Int) % (m : Int) = ((n * b % m : Nat) : Int) := by rw [Int.natCast_emod, Int.natCast_mul]
theorem mul_le62 {n b m : Nat} (hm : m ≤ 2147483648) (hn : n < m) (hb : b < m) : 0 ≤ (n : Int) * (b : Int) ∧ (n : Int) * (b : Int) ≤ 4611686018427387904 := by
  have h : n * b ≤ 2147483648 * 2147483648 := Nat.mul_le_mul (by omega) (by omega)
  have : ((n * b : Nat) : Int) ≤ 4611686018427387904 := by omega
  rw [Int.natCast_mul] at this
  exact ⟨Int.mul_nonneg (by omega) (by omega), this⟩
set_option maxHeartbeats 2000000 in
theorem rpower_any (a x m : Nat) (w : World) (hm1 : 1 < m) (hm : m ≤ 2147483648) (ha : a < m) (hx : x ≤ 4611686018427387904) :
    Calls Tryd.prog 66 #[.int .i64 a, .int .i64 x, .int .i64 m] w fun e w' => e = .returned (.int .i64 (pw a x m : Nat)) ∧ w = w' := by
  have hst : 1 * a ^ x % m = pw a x m := by rw [Nat.one_mul]; rfl
  generalize hR : pw a x m = R at *
  have hmi : (0 : Int) < (m : Int) := by omega
  have hmz : ((m : Int) == 0) = false := by rw [beq_eq_false_iff_ne]; omega
  have ⟨H_hst, H_hR, H_ha⟩ := hid3 hst hR ha; clear hst hR ha
  go_enter Tryd.func66, Tryd.ntmps66
  go_wp2_with fail
  go_loop [0, 1, 7] (fun a x o => ∃ (X A O : Nat), a = .int .i64 A ∧ x = .int .i64 X ∧ o = .int .i64 O ∧ X ≤ 4611686018427387904 ∧ A < m ∧ O < m ∧ O * A ^ X % m = R) (fun _ x _ => (intOf x).toNat)
  case atStart => exact ⟨x, a, 1, rfl, rfl, rfl, hx, H_ha.out, hm1, H_hst.out⟩
  case round =>
    obtain ⟨X, A, O, rfl, rfl, rfl, hX, hA, hO, hinv⟩ := hrel
    by_cases h0 : X = 0
    · have hR2 : O = R := by rw [h0, Nat.pow_zero, Nat.mul_one, Nat.mod_eq_of_lt hO] at hinv; exact hinv
      have t1 : ¬ (0 : Int) < (X : Int) := by omega
      have ⟨H_hinv, H_h0, H_hR2, H_hA, H_hO⟩ := hid5 hinv h0 hR2 hA hO; clear hinv h0 hR2 hA hO
      go_wp2_with fail
      go_ret
      exact ⟨ret_int (by rw [H_hR2.out]), rfl⟩
    · have t1 : (0 : Int) < (X : Int) := by omega
      have hrd := pow_round m A X O
      rw [hinv] at hrd
      have hA2 : A * A % m < m := Nat.mod_lt _ (by omega)
      have hO2 : O * A % m < m := Nat.mod_lt _ (by omega)
      have m1 := mul_le62 hm hA hA
      have m2 := mul_le62 hm hO hA
      have m3 := m1.1; have m4 := m1.2; have m5 := m2.1; have m6 := m2.2
      have e1 := cast_mod A A m
      have e2 := cast_mod O A m
      by_cases hodd : X % 2 = 1
      · have t2 : ((X : Int) % 2 == 1) = true := by rw [beq_iff_eq]; omega
        rw [if_pos hodd] at hrd
        have ⟨H_hinv, H_h0, H_hrd, H_hA2, H_hO2, H_hA, H_hO, H_hodd⟩ := hid8 hinv h0 hrd hA2 hO2 hA hO hodd; clear hinv h0 hrd hA2 hO2 hA hO hodd; have ⟨H_m1, H_m2⟩ := hid2 m1 m2; clear m1 m2
        go_wp2_with fail
        go_round
        case rel => exact ⟨X / 2, A * A % m, O * A % m, rfl, by go_num, rfl, by omega, H_hA2.out, H_hO2.out, H_hrd.out⟩
        case measure => simp [intOf]; omega
      · have t2 : ((X : Int) % 2 == 1) = false := by rw [beq_eq_false_iff_ne]; omega
        rw [if_neg hodd] at hrd
        have ⟨H_hinv, H_h0, H_hrd, H_hA2, H_hO2, H_hA, H_hO, H_hodd⟩ := hid8 hinv h0 hrd hA2 hO2 hA hO hodd; clear hinv h0 hrd hA2 hO2 hA hO hodd; have ⟨H_m1, H_m2⟩ := hid2 m1 m2; clear m1 m2
        go_wp2_with fail
        go_round
        case rel => exact ⟨X / 2, A * A % m, O, rfl, by go_num, rfl, by omega, H_hA2.out, H_hO.out, H_hrd.out⟩
        case measure => simp [intOf]; omega
theorem rExponent_any (n : Int) (w : World) : Calls Tryd.prog 75 #[.int .i64 n] w fun e w' => e = .returned (.bool (wthB n 0)) ∧ w = w' := by
  by_cases h1 : 0 ≤ n
  · by_cases h2 : n < 1073741789
    · have e : wthB n 0 = true := wthB_iff.2 ⟨h1, h2⟩
      rw [e]; clear e
      go_enter Tryd.func75, Tryd.ntmps75
      go_wp2_with fail
      go_ret
      exact ⟨rfl, rfl⟩
    · have e : wthB n 0 = false := by simp [wthB, h2]
      have h2' : decide (n < 1073741789) = false := by simpa using h2
      rw [e]; clear e
      go_enter Tryd.func75, Tryd.ntmps75
      go_wp2_with fail
      go_ret
      exact ⟨rfl, rfl⟩
  · have e : wthB n 0 = false := by simp [wthB, h1]
    have h1' : decide (0 ≤ n) = false := by simpa using h1
    rw [e]; clear e
    go_enter Tryd.func75, Tryd.ntmps75
    go_wp2_with fail
    go_ret
    exact ⟨rfl, rfl⟩
theorem rmember_any (a : Int) (w : World) : Calls Tryd.prog 49 #[.int .i64 a] w fun e w' => e = .returned (.bool (memZ a)) ∧ w = w' := by
  by_cases h1 : 1 ≤ a
  · by_cases h2 : a < 2147483579
    · obtain ⟨n, rfl⟩ := Int.eq_ofNat_of_zero_le (show 0 ≤ a by omega)
      have q := rpower_any n 1073741789 2147483579 w (by omega) (by omega) (by omega) (by omega)
      have e : memZ (n : Int) = ((pw n QQ PP : Nat) == 1) := by simp [memZ, h1, h2]
      have e2 : (((pw n QQ PP : Nat) : Int) == 1) = ((pw n QQ PP : Nat) == 1) := by rw [Bool.eq_iff_iff, beq_iff_eq, beq_iff_eq]; omega
      rw [e]
      change Calls _ _ #[.int .i64 n, .int .i64 ((1073741789 : Nat) : Int), .int .i64 ((2147483579 : Nat) : Int)] w (fun e w' => e = .returned (.int .i64 (pw n QQ PP : Nat)) ∧ _) at q
      generalize ((pw n QQ PP : Nat) == 1) = Z at *
      generalize ((pw n QQ PP : Nat) : Int) = Y at *
      have ⟨H_q, H_e⟩ := hid2 q e; clear q e
      go_enter Tryd.func49, Tryd.ntmps49
      go_wp2_with fail
      refine H_q.out.mono ?_
      rintro e w_ ⟨rfl, rfl⟩
      go_wp2_with fail
      go_ret
      exact ⟨rfl, rfl⟩
    · have e : memZ a = false := by simp [memZ, h2]
      have h2' : decide (a < 2147483579) = false := by simpa using h2
      rw [e]; clear e
      go_enter Tryd.func49, Tryd.ntmps49
      go_wp2_with fail
      go_ret
      exact ⟨rfl, rfl⟩
  · have e : memZ a = false := by simp [memZ, h1]
    have h1' : decide (1 ≤ a) = false := by simpa using h1
    rw [e]; clear e
    go_enter Tryd.func49, Tryd.ntmps49
    go_wp2_with fail
    go_ret
    exact ⟨rfl, rfl⟩
theorem rpowP (a x : Nat) (w : World) (ha : a < PP) (hx : x ≤ 4611686018427387904) :
    Calls Tryd.prog 66 #[.int .i64 a, .int .i64 x, .int .i64 2147483579] w fun e w' => e = .returned (.int .i64 (pw a x PP : Nat)) ∧ w = w' := rpower_any a x 2147483579 w (by omega) (by omega) ha hx
theorem rchal_any (A : Option Addr) (c n : Nat) (l : List Int) (hln : l.length = n) (w : World) (hl : IntsAt w A .i64 l) (hn : n ≤ 100000) (hf : Fit l) :
    Calls Tryd.prog 64 #[.slice A n c] w fun e w' => e = .returned (.int .i64 (chN l : Nat)) ∧ Below w.heap.size w w' := by
  have q1 := refSum_val none 0 0 [] rfl _ sum_nil w IntsAt.nil (by omega) (by simp)
  have e1 := chN_eq l
  have e2 := nextB_in 14695981039346656037 l
  have q2 := refNext_val 14695981039346656037 A c n l hln _ rfl w (by omega) hl (by omega) hf
  generalize nextB 14695981039346656037 l = N at *
  generalize chN l = C at *
  have e3 := e2.1; have e4 := e2.2
  have bb0 := Below.refl w.heap.size w
  have ⟨H_q1, H_q2, H_e1, H_e2, H_bb0, H_hl, H_hf, H_hln⟩ := hid8 q1 q2 e1 e2 bb0 hl hf hln; clear q1 q2 e1 e2 bb0 hl hf hln
  go_enter Tryd.func64, Tryd.ntmps64
  go_wp2_with fail
  refine H_q1.out.mono ?_
  rintro e w_ ⟨rfl, rfl⟩
  go_wp2_with fail
  refine H_q2.out.mono ?_
  rintro e w1 ⟨rfl, b1⟩
  have s1 := b1.size
  (try simp only [World.size_alloc, World.heap_drewN, World.size_setCell, heap_drew] at s1)
  have bb1 := H_bb0.out.trans (b1.mono (by first | omega | (simp; omega)))
  have ⟨H_b1, H_bb1⟩ := hid2 b1 bb1; clear b1 bb1
  go_wp2_with fail
  go_ret
  exact ⟨ret_int (by rw [← H_e1.out]), H_bb1.out⟩
/-- what a call that makes a list of integers leaves -/
def NewInts (l : List Int) (n : Nat) (w : World) (e : Ending) (w' : World) : Prop := ∃ B d, e = .returned (.slice B n d) ∧ IntsAt w' B .i64 l ∧ Below w.heap.size w w'
set_option maxHeartbeats 1000000 in
theorem rafter_any (a b : Int) (A : Option Addr) (c n : Nat) (l : List Int) (hln : l.length = n) (w : World) (hl : IntsAt w A .i64 l) (hn : n ≤ 100000) :
    Calls Tryd.prog 65 #[.int .i64 a, .int .i64 b, .slice A n c] w (NewInts (a :: b :: l) (2 + n) w) := by
  obtain ⟨i0, hi, hz0, hz1, hz2⟩ := info_parts infoI64
  have o0 := own_lit (w := w) (k := .i64) (E := 3) [a, b] (Nat.le_refl _) (by simp) _ rfl
  have b0 : Below w.heap.size w (w.alloc (.cells #[.int .i64 a, .int .i64 b] 3)) := (Below.refl _ _).alloc (Nat.le_refl _) _
  have ⟨H_hl, H_hln, H_o0, H_b0⟩ := hid4 hl hln o0 b0; clear hl hln o0 b0
  go_enter Tryd.func65, Tryd.ntmps65
  go_wp2_with fail
  go_loopw [7, 8] (fun v i wr => ∃ (k : Nat) (B : Option Addr) (d : Nat), k ≤ n ∧ i = .int .i64 k ∧ v = .slice B (2 + k) d ∧ OwnInts wr w.heap.size 3 .i64 B d (a :: b :: l.take k) ∧ Below w.heap.size w wr) (fun _ i _ => n - (intOf i).toNat)
  case atStart => exact ⟨0, _, _, by omega, rfl, rfl, H_o0.out, H_b0.out⟩
  case round =>
    obtain ⟨k, B, d, hk, rfl, rfl, ho, hbw⟩ := hrel
    have hsz := hbw.size
    by_cases hlt : k < n
    · obtain ⟨g, off, hA, hbs, hc⟩ := (H_hl.out.below hbw) k (by rw [H_hln.out]; exact hlt)
      have hsn := take_snocD l k 0 (by rw [H_hln.out]; exact hlt)
      have hll : (a :: b :: l.take k).length = 2 + k := by simp [H_hln.out]; omega
      generalize l.getD k 0 = x at *
      have i1 : (0 : Int) ≤ (k : Int) := by omega
      have i2 : (k : Int) < (n : Int) := by omega
      subst hA
      have ⟨H_ho, H_hbw, H_hsn, H_hll⟩ := hid4 ho hbw hsn hll; clear ho hbw hsn hll
      go_wp2_with (at_builtin; refine wp_app_at _ rfl (.tmp 18) (.tmp 23) _ rfl w.heap.size 3 i0 _ 8 Tryd.underlying45 hi hz0 hz1 hz2 rfl .i64 B d (2 + k) (a :: b :: l.take k) H_hll.out rfl (H_ho.out.alloc _) (some ⟨wr.heap.size, 0, none⟩) 1 1 [x] rfl rfl (ints_new1 _ _ _ _ _ rfl) ?_ ?_ ?_ ?_)
      · omega
      · omega
      · simp; omega
      intro B2 d2 w2 ho2 hg2 hB2
      have hb2 := (H_ho.out.alloc (.cells #[.int .i64 x] 3)).grow (H_hbw.out.alloc hsz _) hg2
      have ⟨H_ho2, H_hg2, H_hB2, H_hb2⟩ := hid4 ho2 hg2 hB2 hb2; clear ho2 hg2 hB2 hb2
      go_wp2_with fail
      go_roundw
      case rel => exact ⟨k + 1, B2, d2, by omega, by go_num, by congr 1, by rw [H_hsn.out]; exact H_ho2.out, H_hb2.out⟩
      case measure => simp [intOf]; omega
    · have hall : l.take k = l := List.take_of_length_le (by rw [H_hln.out]; omega)
      rw [hall] at ho
      have i2 : ¬ (k : Int) < (n : Int) := by omega
      have hkn : k = n := by omega
      have hoi := ho.ints
      have ⟨H_ho, H_hbw, H_hall, H_hkn, H_hoi⟩ := hid5 ho hbw hall hkn hoi; clear ho hbw hall hkn hoi
      go_wp2_with fail
      go_ret
      exact ⟨B, d, ret_slice (by rw [H_hkn.out]), H_hoi.out, H_hbw.out⟩
set_option maxHeartbeats 1000000 in
theorem rsign_yes (s o : Nat) (A : Option Addr) (c n : Nat) (l : List Int) (hln : l.length = n) (w : World) (hs : wthB s 1 = true) (ho : wthB o 1 = true) (hl : IntsAt w A .i64 l) (hn : n ≤ 1000) (hf : Fit l) :
    Calls Tryd.prog 47 #[.int .i64 s, .int .i64 o, .slice A n c] w fun e w' => e = .returned (.tuple #[.agg #[.int .i64 (sigE s o l : Nat), .int .i64 (sigS s o l : Nat)], .int .i64 0]) ∧ Below w.heap.size w w' := by
  have hq : QQ = 1073741789 := rfl
  have h1 := wthB_iff.1 hs
  have h2 := wthB_iff.1 ho
  have q1 := fun W => rSecret_any s W
  have q2 := fun W => rSecret_any o W
  rw [hs] at q1
  rw [ho] at q2
  have q3 := fun W => rpowP 4 o W (by decide) (by omega)
  have q4 := fun W => rpowP 4 s W (by decide) (by omega)
  have q5 := fun W (h : IntsAt W A .i64 l) => rafter_any (pw 4 o PP : Nat) (pw 4 s PP : Nat) A c n l hln W h (by omega)
  have q6 := fun W X x (h : IntsAt W X .i64 ((pw 4 o PP : Nat) :: (pw 4 s PP : Nat) :: l)) => rchal_any X x (2 + n) ((pw 4 o PP : Nat) :: (pw 4 s PP : Nat) :: l) (by simp [hln]; omega) W h (by omega) (fit_two (pw_fit _ _) (pw_fit _ _) hf)
  change ∀ W X x, IntsAt W X .i64 _ → Calls _ _ _ W (fun e w' => e = .returned (.int .i64 (sigE s o l : Nat)) ∧ _) at q6
  have hE := sigE_lt s o l
  have hS : ((sigS s o l : Nat) : Int) = ((o : Int) + (sigE s o l : Int) * s) % 1073741789 := by
    rw [sigS, Int.natCast_emod, Int.natCast_add, Int.natCast_mul]; rfl
  generalize sigE s o l = E at *
  generalize sigS s o l = S at *
  have hm : E * s ≤ 1073741789 * 1073741789 := Nat.mul_le_mul (by omega) (by omega)
  have hm1 : (E : Int) * (s : Int) ≤ 1152921504606846976 := by
    have : ((E * s : Nat) : Int) ≤ 1152921504606846976 := by omega
    rwa [Int.natCast_mul] at this
  have hm0 : 0 ≤ (E : Int) * (s : Int) := Int.mul_nonneg (by omega) (by omega)
  generalize ((pw 4 o PP : Nat) : Int) = P1 at *
  generalize ((pw 4 s PP : Nat) : Int) = P2 at *
  have ho1 : o ≤ 1073741789 := by omega
  clear hm
  have bw : Below w.heap.size w (w.alloc (.cells #[.int .i64 0, .int .i64 0] 31)) := (Below.refl _ _).alloc (Nat.le_refl _) _
  have p5 := q5 _ (hl.below bw)
  unfold NewInts at p5
  have ⟨H_q1, H_q2, H_q3, H_q4, H_q5, H_q6, H_p5, H_hl⟩ := hid8 q1 q2 q3 q4 q5 q6 p5 hl; clear q1 q2 q3 q4 q5 q6 p5 hl; have ⟨H_hf, H_hln, H_hs, H_ho, H_hq, H_h1, H_h2, H_bw⟩ := hid8 hf hln hs ho hq h1 h2 bw; clear hf hln hs ho hq h1 h2 bw; have ⟨H_hS, H_hE⟩ := hid2 hS hE; clear hS hE
  go_enter Tryd.func47, Tryd.ntmps47
  go_wp2_with fail
  refine (H_q1.out _).mono ?_
  rintro e w_ ⟨rfl, rfl⟩
  go_wp2_with fail
  refine (H_q2.out _).mono ?_
  rintro e w_ ⟨rfl, rfl⟩
  go_wp2_with fail
  refine (H_q3.out _).mono ?_
  rintro e w_ ⟨rfl, rfl⟩
  go_wp2_with fail
  refine (H_q4.out _).mono ?_
  rintro e w_ ⟨rfl, rfl⟩
  go_wp2_with fail
  refine (H_p5.out).mono ?_; rintro e w3 ⟨X, x, rfl, hX, hbw3⟩
  have hsw3 := hbw3.size; (try simp only [World.size_alloc, World.heap_drewN, World.size_setCell, heap_drew] at hsw3)
  have gw3 : Below w.heap.size w w3 := belt
  have kw3x0x0 := keepc hbw3 (b := w.heap.size) (o := 0) omg (by go_simp; with_reducible rfl)
  have fw3x0x0 := keepf hbw3 (b := w.heap.size) (o := 0) omg (by go_simp)
  have kw3x0x1 := keepc hbw3 (b := w.heap.size) (o := 1) omg (by go_simp; with_reducible rfl)
  have fw3x0x1 := keepf hbw3 (b := w.heap.size) (o := 1) omg (by go_simp)
  have zw3x0 : w.heap.size < w3.heap.size := by omega
  have H_hbw3 := Lib.hid hbw3; clear hbw3
  have p6 := H_q6.out w3 X x hX
  have ⟨H_p6, H_hX⟩ := hid2 p6 hX; clear p6 hX
  go_wp2_with fail
  refine (H_p6.out).mono ?_; rintro e w4 ⟨rfl, hbw4⟩
  have hsw4 := hbw4.size; (try simp only [World.size_alloc, World.heap_drewN, World.size_setCell, heap_drew] at hsw4)
  have gw4 : Below w.heap.size w w4 := belt
  have kw4x0x0 := keepc hbw4 (b := w.heap.size) (o := 0) omg (by go_simp; with_reducible rfl)
  have fw4x0x0 := keepf hbw4 (b := w.heap.size) (o := 0) omg (by go_simp)
  have kw4x0x1 := keepc hbw4 (b := w.heap.size) (o := 1) omg (by go_simp; with_reducible rfl)
  have fw4x0x1 := keepf hbw4 (b := w.heap.size) (o := 1) omg (by go_simp)
  have zw4x0 : w.heap.size < w4.heap.size := by omega
  have H_hbw4 := Lib.hid hbw4; clear hbw4
  clear gw3
  clear kw3x0x0
  clear fw3x0x0
  clear kw3x0x1
  clear fw3x0x1
  go_wp2_with fail
  have c0 := set_same kw4x0x0 (.int .i64 E)
  have c1 := set_same (set_other kw4x0x1 (o' := 0) (by omega) (.int .i64 E)) (.int .i64 (((o : Int) + (E : Int) * s) % 1073741789))
  refine bodyPost_ret (v := .tuple #[.agg #[.int .i64 E, .int .i64 (((o : Int) + (E : Int) * s) % 1073741789)], .int .i64 0]) (by simp [results, Tryd.results47, go_sem, c0, c1]) rfl ?_
  rw [H_hS.out]
  exact ⟨rfl, belt⟩
set_option maxHeartbeats 1000000 in
theorem rsign_no (s o : Int) (A : Option Addr) (c n : Nat) (w : World) (h : (wthB s 1 && wthB o 1) = false) :
    Calls Tryd.prog 47 #[.int .i64 s, .int .i64 o, .slice A n c] w fun e w' => e = .returned (.tuple #[.agg #[.int .i64 0, .int .i64 0], .int .i64 1]) ∧ Below w.heap.size w w' := by
  have q1 := fun W => rSecret_any s W
  have q2 := fun W => rSecret_any o W
  generalize wthB s 1 = M at *
  generalize wthB o 1 = N at *
  have hc : M = false ∨ (M = true ∧ N = false) := by cases M <;> simp_all
  rcases hc with rfl | ⟨rfl, rfl⟩
  all_goals
    have ⟨H_q1, H_q2, H_h⟩ := hid3 q1 q2 h; clear q1 q2 h
    go_enter Tryd.func47, Tryd.ntmps47
    go_wp2_with fail
    refine (H_q1.out _).mono ?_
    rintro e w_ ⟨rfl, rfl⟩
    go_wp2_with fail
    refine (H_q2.out _).mono ?_
    rintro e w_ ⟨rfl, rfl⟩
    go_wp2_with fail
    refine bodyPost_ret (by simp [results, Tryd.results47, go_sem]; rfl) rfl ?_
    exact ⟨rfl, belt⟩
set_option maxHeartbeats 2000000 in
theorem rback_any (p e s : Nat) (w : World) (hp : p < PP) (he : e < QQ) (hs : s < QQ) :
    Calls Tryd.prog 76 #[.int .i64 p, .agg #[.int .i64 e, .int .i64 s]] w fun x w' => x = .returned (.int .i64 (backN p e s : Nat)) ∧ Below w.heap.size w w' := by
  have hq : QQ = 1073741789 := rfl
  have hpp : PP = 2147483579 := rfl
  have ex := exp_eq e he
  have hK : (QQ - e) % QQ < QQ := Nat.mod_lt _ (by decide)
  have hback : backN p e s = pw 4 s PP * pw p ((QQ - e) % QQ) PP % PP := rfl
  generalize hKK : (QQ - e) % QQ = K at *
  have hb1 := cast_mulmod (pw 4 s PP) (pw p K PP)
  rw [← hback] at hb1
  have hm1 := mul_lt31 (pw_lt (a := 4) (x := s) (m := PP) (by decide)) (pw_lt (a := p) (x := K) (m := PP) (by decide))
  have hm0 : 0 ≤ ((pw 4 s PP : Nat) : Int) * ((pw p K PP : Nat) : Int) := Int.mul_nonneg (by omega) (by omega)
  generalize backN p e s = B at *
  have q4a : ∀ W, Calls Tryd.prog 66 #[.int .i64 4, .int .i64 s, .int .i64 2147483579] W fun e w' => e = .returned (.int .i64 (pw 4 s PP : Nat)) ∧ W = w' := fun W => rpowP 4 s W (by decide) (by omega)
  have q4b := fun W => rpowP p K W hp (by omega)
  generalize ((pw 4 s PP : Nat) : Int) = P1 at *
  generalize ((pw p K PP : Nat) : Int) = P2 at *
  have z1 : IntKind.i64.wrap (1073741789 - (e : Int)) = 1073741789 - (e : Int) := IntWalk.i64_in _ (by omega)
  have z2 : (1073741789 - (e : Int)).tmod 1073741789 = (K : Int) := by rw [Int.tmod_eq_emod_of_nonneg (by omega)]; exact ex
  have z3 : IntKind.i64.wrap (P1 * P2) = P1 * P2 := IntWalk.i64_in _ (by omega)
  have z4 : (P1 * P2).tmod 2147483579 = (B : Int) := by rw [Int.tmod_eq_emod_of_nonneg (by omega)]; exact hb1
  have bw : Below w.heap.size w (w.alloc (.cells #[.int .i64 e, .int .i64 s] 31)) := (Below.refl _ _).alloc (Nat.le_refl _) _
  have k0 : (w.alloc (.cells #[.int .i64 e, .int .i64 s] 31)).cell? ⟨w.heap.size, 0, none⟩ = some (.int .i64 e) := by rw [cell_of_row _ _ _ _ _ _ (heap_alloc_new w _)]; rfl
  have k1 : (w.alloc (.cells #[.int .i64 e, .int .i64 s] 31)).cell? ⟨w.heap.size, 1, none⟩ = some (.int .i64 s) := by rw [cell_of_row _ _ _ _ _ _ (heap_alloc_new w _)]; rfl
  have sz : w.heap.size < (w.alloc (.cells #[.int .i64 e, .int .i64 s] 31)).heap.size := by simp
  have ⟨H_q4a, H_q4b, H_hp, H_he, H_hs, H_hq, H_hpp, H_ex⟩ := hid8 q4a q4b hp he hs hq hpp ex; clear q4a q4b hp he hs hq hpp ex; have ⟨H_hK, H_hback, H_hKK, H_hb1, H_bw, H_hm1, H_hm0, H_z1⟩ := hid8 hK hback hKK hb1 bw hm1 hm0 z1; clear hK hback hKK hb1 bw hm1 hm0 z1; have ⟨H_z2, H_z3, H_z4, H_k0, H_k1, H_sz⟩ := hid6 z2 z3 z4 k0 k1 sz; clear z2 z3 z4 k0 k1 sz
  go_enter Tryd.func76, Tryd.ntmps76
  go_wp2_with fail
  obtain ⟨w1, hw1⟩ : ∃ w1, w.alloc (.cells #[.int .i64 e, .int .i64 s] 31) = w1 := ⟨_, rfl⟩
  rw [hw1]
  have gw1 := H_bw.out
  have k0 := H_k0.out
  have k1 := H_k1.out
  have sz := H_sz.out
  rw [hw1] at gw1 k0 k1 sz
  have z1 := H_z1.out
  have z2 := H_z2.out
  have z3 := H_z3.out
  have z4 := H_z4.out
  have H_hw1 := Lib.hid hw1; clear hw1
  clear H_k0 H_k1 H_sz H_bw
  go_region_held3 (fun W => (∀ b o, b < w1.heap.size → W.cell? ⟨b, o, none⟩ = w1.cell? ⟨b, o, none⟩) ∧ Below w1.heap.size w1 W) (first | (refine ext_mk ?_; exact belt)) (first | (go_at_call 66; ((with_reducible refine (H_q4a.out _).mono ?_); rintro e w2 ⟨rfl, rfl⟩)) | (go_at_call 66; ((with_reducible refine (H_q4b.out _).mono ?_); rintro e w2 ⟨rfl, rfl⟩)))
  all_goals
    clear z1 z2 z3 z4
    go_wp2_with fail
    go_ret
    exact ⟨rfl, held_end gw1 (by assumption)⟩
theorem rverify_no (p e s : Int) (A : Option Addr) (c n : Nat) (w : World) (h : okB p e s = false) :
    Calls Tryd.prog 67 #[.int .i64 p, .agg #[.int .i64 e, .int .i64 s], .slice A n c] w fun x w' => x = .returned (.tuple #[.bool false, .int .i64 1]) ∧ Below w.heap.size w w' := by
  have q1 := fun W => rmember_any p W
  have q2 := fun W => rExponent_any e W
  have q3 := fun W => rExponent_any s W
  unfold okB at h
  generalize memZ p = M at *
  generalize wthB e 0 = N at *
  generalize wthB s 0 = O at *
  have hc : M = false ∨ (M = true ∧ N = false) ∨ (M = true ∧ N = true ∧ O = false) := by cases M <;> cases N <;> simp_all
  rcases hc with rfl | ⟨rfl, rfl⟩ | ⟨rfl, rfl, rfl⟩
  all_goals
    have ⟨H_q1, H_q2, H_q3, H_h⟩ := hid4 q1 q2 q3 h; clear q1 q2 q3 h
    go_enter Tryd.func67, Tryd.ntmps67
    go_wp2_with fail
    refine (H_q1.out _).mono ?_
    rintro e w_ ⟨rfl, rfl⟩
    go_wp2_with fail
    refine (H_q2.out _).mono ?_
    rintro e w_ ⟨rfl, rfl⟩
    go_wp2_with fail
    refine (H_q3.out _).mono ?_
    rintro e w_ ⟨rfl, rfl⟩
    go_wp2_with fail
    go_ret2
    exact ⟨rfl, belt⟩
set_option maxHeartbeats 2000000 in
theorem rverify_yes (p e s : Nat) (A : Option Addr) (c n : Nat) (l : List Int) (hln : l.length = n) (w : World) (hp : memZ p = true) (he : wthB e 0 = true) (hs : wthB s 0 = true) (hl : IntsAt w A .i64 l) (hn : n ≤ 1000) (hf : Fit l) :
    Calls Tryd.prog 67 #[.int .i64 p, .agg #[.int .i64 e, .int .i64 s], .slice A n c] w fun x w' => x = .returned (.tuple #[.bool (rightB p e s l), .int .i64 0]) ∧ Below w.heap.size w w' := by
  have hq : QQ = 1073741789 := rfl
  have hpp : PP = 2147483579 := rfl
  have h1 := memZ_iff.1 hp
  have h2 := wthB_iff.1 he
  have h3 := wthB_iff.1 hs
  have q1 := fun W => rmember_any p W
  have q2 := fun W => rExponent_any e W
  have q3 := fun W => rExponent_any s W
  rw [hp] at q1
  rw [he] at q2
  rw [hs] at q3
  have q4 := fun W => rback_any p e s W (by omega) (by omega) (by omega)
  have hbl := backN_lt p e s
  have q5 := fun W (h : IntsAt W A .i64 l) => rafter_any (backN p e s : Nat) (p : Nat) A c n l hln W h (by omega)
  have q6 := fun W X x (h : IntsAt W X .i64 ((backN p e s : Nat) :: (p : Int) :: l)) => rchal_any X x (2 + n) ((backN p e s : Nat) :: (p : Int) :: l) (by simp [hln]; omega) W h (by omega) (fit_two (by omega) (by omega) hf)
  have hR : rightB p e s l = (e == chN ((backN p e s : Nat) :: (p : Int) :: l)) := rfl
  generalize hCC : chN ((backN p e s : Nat) :: (p : Int) :: l) = C at *
  generalize hLL : ((backN p e s : Nat) : Int) :: (p : Int) :: l = LL at *
  generalize backN p e s = B at *
  have zc : ((C : Int) == (e : Int)) = (e == C) := by rw [nat_beq, Bool.eq_iff_iff, beq_iff_eq, beq_iff_eq]; exact eq_comm
  have bw : Below w.heap.size w (w.alloc (.cells #[.int .i64 e, .int .i64 s] 31)) := (Below.refl _ _).alloc (Nat.le_refl _) _
  have k0 : (w.alloc (.cells #[.int .i64 e, .int .i64 s] 31)).cell? ⟨w.heap.size, 0, none⟩ = some (.int .i64 e) := by rw [cell_of_row _ _ _ _ _ _ (heap_alloc_new w _)]; rfl
  have k1 : (w.alloc (.cells #[.int .i64 e, .int .i64 s] 31)).cell? ⟨w.heap.size, 1, none⟩ = some (.int .i64 s) := by rw [cell_of_row _ _ _ _ _ _ (heap_alloc_new w _)]; rfl
  have sz : w.heap.size < (w.alloc (.cells #[.int .i64 e, .int .i64 s] 31)).heap.size := by simp
  have l1 := hl.below bw
  unfold NewInts at q5
  have ⟨H_q1, H_q2, H_q3, H_q4, H_q5, H_q6, H_hl, H_hf⟩ := hid8 q1 q2 q3 q4 q5 q6 hl hf; clear q1 q2 q3 q4 q5 q6 hl hf; have ⟨H_hln, H_hp, H_he, H_hs, H_h1, H_h2, H_h3, H_hq⟩ := hid8 hln hp he hs h1 h2 h3 hq; clear hln hp he hs h1 h2 h3 hq; have ⟨H_hpp, H_hbl, H_hR, H_hCC, H_hLL, H_bw, H_k0, H_k1⟩ := hid8 hpp hbl hR hCC hLL bw k0 k1; clear hpp hbl hR hCC hLL bw k0 k1; have ⟨H_sz, H_l1, H_zc⟩ := hid3 sz l1 zc; clear sz l1 zc
  go_enter Tryd.func67, Tryd.ntmps67
  go_wp2_with fail
  refine (H_q1.out _).mono ?_
  rintro e w_ ⟨rfl, rfl⟩
  go_wp2_with fail
  refine (H_q2.out _).mono ?_
  rintro e w_ ⟨rfl, rfl⟩
  go_wp2_with fail
  refine (H_q3.out _).mono ?_
  rintro e w_ ⟨rfl, rfl⟩
  go_wp2_with fail
  obtain ⟨w1, hw1⟩ : ∃ w1, w.alloc (.cells #[.int .i64 e, .int .i64 s] 31) = w1 := ⟨_, rfl⟩
  rw [hw1]
  have gw1 := H_bw.out
  have k0 := H_k0.out
  have k1 := H_k1.out
  have sz := H_sz.out
  have l1 := H_l1.out
  rw [hw1] at gw1 k0 k1 sz l1
  have ⟨H_hw1, H_l1⟩ := hid2 hw1 l1; clear hw1 l1
  clear H_k0 H_k1 H_sz H_bw
  go_region_held3 (fun W => (∀ b o, b < w1.heap.size → W.cell? ⟨b, o, none⟩ = w1.cell? ⟨b, o, none⟩) ∧ Below w1.heap.size w1 W) (first | (refine ext_mk ?_; exact belt)) (first | (go_at_call 76; refine (H_q4.out _).mono ?_; rintro e w2 ⟨rfl, hb2⟩) | (go_at_call 65; refine (H_q5.out _ ?_).mono ?_; (focus (exact H_l1.out.below (And.right (by assumption)))); rintro e w2 ⟨X, x, rfl, hX, hb2⟩; have H_hX := Lib.hid hX; clear hX) | (go_at_call 64; refine (H_q6.out _ _ _ ?_).mono ?_; (focus (exact H_hX.out)); rintro e w2 ⟨rfl, hb2⟩))
  all_goals
    go_wp2_with fail
    go_ret2
    rw [H_hR.out, ← H_zc.out]
    exact ⟨rfl, held_end gw1 (by assumption)⟩
theorem rsign_all (s o : Int) (A : Option Addr) (c n : Nat) (l : List Int) (hln : l.length = n) (w : World) (hl : IntsAt w A .i64 l) (hn : n ≤ 1000) (hf : Fit l) :
    Calls Tryd.prog 47 #[.int .i64 s, .int .i64 o, .slice A n c] w fun e w' => e = .returned (.tuple #[.agg #[.int .i64 (sgnE s o l), .int .i64 (sgnS s o l)], .int .i64 (errV (wthB s 1 && wthB o 1))]) ∧ Below w.heap.size w w' := by
  by_cases h : (wthB s 1 && wthB o 1) = true
  · rw [sgnE, sgnS, errV, if_pos h, if_pos h, if_pos h]
    rw [Bool.and_eq_true] at h
    obtain ⟨s, rfl⟩ := nat_of (by omega) h.1
    obtain ⟨o, rfl⟩ := nat_of (by omega) h.2
    exact rsign_yes s o A c n l hln w h.1 h.2 hl hn hf
  · rw [sgnE, sgnS, errV, if_neg h, if_neg h, if_neg h]; exact rsign_no s o A c n w (by simpa using h)
theorem rverify_all (p e s : Int) (A : Option Addr) (c n : Nat) (l : List Int) (hln : l.length = n) (w : World) (hl : IntsAt w A .i64 l) (hn : n ≤ 1000) (hf : Fit l) :
    Calls Tryd.prog 67 #[.int .i64 p, .agg #[.int .i64 e, .int .i64 s], .slice A n c] w fun x w' => x = .returned (.tuple #[.bool (verV p e s l), .int .i64 (errV (okB p e s))]) ∧ Below w.heap.size w w' := by
  by_cases h : okB p e s = true
  · rw [verV, errV, if_pos h, h, Bool.true_and]
    simp only [okB, Bool.and_eq_true] at h
    obtain ⟨p, rfl⟩ := nat_mem h.1.1
    obtain ⟨e, rfl⟩ := nat_of (by omega) h.1.2
    obtain ⟨s, rfl⟩ := nat_of (by omega) h.2
    exact rverify_yes p e s A c n l hln w h.1.1 h.1.2 h.2 hl hn hf
  · rw [Bool.not_eq_true] at h
    rw [verV, errV, h, Bool.false_and, if_neg (by simp)]; exact rverify_no p e s A c n w h
/-- whether journals contradict each other -/
def frkE (l : List Msg) (h : Hd) (k : List Msg) (g : Hd) (party pub : Int) : Int := if ptyB party = true ∧ memZ pub = true then if sgdB l h party pub = true ∧ sgdB k g party pub = true then 0 else 9 else 1
def difB (l k : List Msg) : Bool := !decide ((l.take (min l.length k.length)).map msI = (k.take (min l.length k.length)).map msI)
def frkV (l : List Msg) (h : Hd) (k : List Msg) (g : Hd) (party pub : Int) : Bool := decide (frkE l h k g party pub = 0) && difB l k
theorem putL_cfar {b g j : Nat} {u : Value} (hne : b ≠ g) : ∀ (vs : List Value) (w : World) (o : Nat), Cel w g j u → Cel (putL w b o vs) g j u
  | [], w, o, h => h
  | v :: r, w, o, h => putL_cfar hne r _ _ (h.far hne v)
theorem putL_far {b g : Nat} {us : Array Value} {w : World} (h : Blk w g us) (hne : b ≠ g) (o : Nat) (vs : List Value) : Blk (putL w b o vs) g us := fun i v hi => putL_cfar hne vs w o (h i v hi)
section
section
variable {P : Program} {ops : Array Oper} {Q : Exit → Act → World → Prop} {md : Region.Mode} {S : World → Prop}
theorem skip_at {i : Nat} (d : Option Tmp) {o : Oper} {fuel : Nat} {listed : Array Bool} {a : Act} {w : World} (hi : ops[i]? = some o) (hd : o.dst = d) (hb : mayTake md ops listed i = true)
    (hQ : ∀ c a w, Q (.panic c) (a.put d undef) w → Q (.panic c) a w) (hw : Region.wanted o (yielded ops a.tmps) = false) (hS : S w)
    (h : wpAnyH P md ops Q S fuel (listed.setIfInBounds i true) (a.put d undef) w) : wpAnyH P md ops Q S (fuel + 1) listed a w := by
  subst hd
  simp only [mayTake, Bool.and_eq_true] at hb
  exact wpAnyH_take hi hb.1.1 hb.1.2 hb.2 hQ (.inr ⟨hw, rfl⟩) hS h
end
end
section
open Go.RowKit Go.ChangeShapes Go.WideShapes Go.ChangeAt
theorem fit_wf {l : List Int} (h : ∀ n ∈ l, (Lit.int .i64 n).wf = true) : Fit l := fun x hx => wf_i64 (h x hx)
end
section
open Go.RowKit Go.ChangeShapes Go.WideShapes Go.ChangeAt
/-- a message that came in -/
structure MsgArg (w : World) (z : Msg) : Prop where
  fit : MFit z
  room : z.a.length ≤ z.c
  max : z.c ≤ 9223372036854775807
  ints : IntsAt w z.A .i64 z.a
  fits : Fit z.a
theorem read_msg {H : Type} {enc : TypeId × Value → H} {W : World} {held : Bool} {fuel : Nat} {c0 c1 c2 c3 c4 : Value} {x : DataW H × List MemPlace} (h : DataW.trod enc Tryd.prog W 0 (fun _ => true) held fuel 47 [c0, c1, c2, c3, c4] = some x) :
    ∃ z : Msg, c0 = .int .i64 z.p ∧ c1 = .int .i64 z.s ∧ c2 = .int .i64 z.t ∧ c3 = .int .i64 z.k ∧ c4 = .slice z.A z.a.length z.c ∧ MsgArg W z := by
  obtain ⟨xs, n, _, _, _, hlen, hg⟩ := DataW.trod_struct Tryd.underlying47 h
  have hl : xs.length = 5 := hlen
  match xs, hl with
  | [y0, y1, y2, y3, y4], _ =>
    have e1 : Tryd.prog.cellsOf 3 = 1 := by kernel_rfl
    have e2 : Tryd.prog.cellsOf 45 = 1 := by kernel_rfl
    have g0 := hg 0 _ rfl
    have g1 := hg 1 _ rfl
    have g2 := hg 2 _ rfl
    have g3 := hg 3 _ rfl
    have g4 := hg 4 _ rfl
    simp [e1, e2] at g0 g1 g2 g3 g4
    obtain ⟨p, rfl, wp⟩ := read_int Tryd.underlying3 g0
    obtain ⟨s, rfl, ws⟩ := read_int Tryd.underlying3 g1
    obtain ⟨t, rfl, wt⟩ := read_int Tryd.underlying3 g2
    obtain ⟨k, rfl, wk⟩ := read_int Tryd.underlying3 g3
    obtain ⟨A, cap, l, rfl, hi, hc, hm, hw⟩ := read_ints Tryd.underlying45 Tryd.underlying3 (by kernel_rfl) g4
    unfold maxLen at hm
    exact ⟨⟨p, s, t, k, A, cap, l⟩, rfl, rfl, rfl, rfl, rfl, ⟨⟨wf_i64 wp, wf_i64 ws, wf_i64 wt, wf_i64 wk, by show l.length ≤ _; omega⟩, hc, hm, hi, fit_wf hw⟩⟩
theorem cells_of_array5 {cs : Array Value} (h : cs.size = 5) : ∃ c0 c1 c2 c3 c4, cs = #[c0, c1, c2, c3, c4] := by
  obtain ⟨l⟩ := cs
  match l, h with
  | [c0, c1, c2, c3, c4], _ => exact ⟨c0, c1, c2, c3, c4, rfl⟩
theorem open_msg {H : Type} {enc : TypeId × Value → H} {W : World} {base : Nat} {held : Bool} {v : Value} {d : DataW H} {p : List MemPlace} (hv : Value.okWide Tryd.prog W .any base 47 v) (h : DataW.Trod enc Tryd.prog W 0 (fun _ => true) held 47 v d p) :
    ∃ z : Msg, v = .agg z.cells.toArray ∧ MsgArg W z := by
  obtain ⟨cs, rfl, hsz⟩ := okWide_struct Tryd.underlying47 hv
  have e : Tryd.prog.cellsOf 47 = 5 := by kernel_rfl
  obtain ⟨c0, c1, c2, c3, c4, rfl⟩ := cells_of_array5 (hsz.trans e)
  obtain ⟨fuel, hf⟩ := h
  obtain ⟨z, rfl, rfl, rfl, rfl, rfl, hz⟩ := read_msg hf
  exact ⟨z, rfl, hz⟩
end
set_option maxHeartbeats 2000000 in
theorem refChain_any (A : Option Addr) (c : Nat) (ll : List (List Int)) (w : World) (hl : ListsAt w A ll) (hn : ll.length ≤ 1000000) (hb : Fits ll) :
    Calls Tryd.prog 63 #[.slice A ll.length c] w fun e w' => e = .returned (.int .u64 (chainB ll)) ∧ Below w.heap.size w w' := by
  obtain ⟨i0, hi, hz0, hz1, hz2⟩ := info_parts infoI64
  have hs0 : sumB 14695981039346656037 [] = 14695981039346656037 := by simp only [sumB, List.foldl_nil]
  have hc0 : chainB (ll.take 0) = 14695981039346656037 := by simp only [List.take_zero, chainB, List.foldl_nil]
  have hsum := refSum_at none 0 0 [] rfl w IntsAt.nil (by omega) (fun i => by simp)
  rw [hs0] at hsum
  generalize hN : ll.length = N at *
  have ⟨H_hl, H_hb, H_hN, H_hsum, H_hs0, H_hc0⟩ := hid6 hl hb hN hsum hs0 hc0; clear hl hb hN hsum hs0 hc0
  go_enter Tryd.func63, Tryd.ntmps63
  go_wp2_with fail
  refine H_hsum.out.mono ?_
  rintro e w0 ⟨rfl, rfl⟩
  go_wp2_with fail
  go_loopw [3, 4] (fun d i wr => ∃ k : Nat, k ≤ N ∧ i = .int .i64 k ∧ d = .int .u64 (chainB (ll.take k)) ∧ Below w.heap.size w wr) (fun _ i _ => N - (intOf i).toNat)
  case atStart => exact ⟨0, by omega, rfl, by rw [H_hc0.out], Below.refl _ _⟩
  case round =>
    obtain ⟨k, hk, rfl, rfl, hbw⟩ := hrel
    by_cases hlt : k < N
    · obtain ⟨b, off, Ai, ci, hA, hbs, hc, hcap, hin⟩ := (H_hl.out.below hbw) k (by rw [H_hN.out]; exact hlt)
      have hsn := chainB_snoc ll k (by rw [H_hN.out]; exact hlt)
      have hfi := fits_at H_hb.out k
      have hci := chainB_in (ll.take k)
      have hsz := hbw.size
      have i1 : (0 : Int) ≤ (k : Int) := by omega
      have i2 : (k : Int) < (N : Int) := by omega
      generalize ll.getD k [] = x at *
      generalize chainB (ll.take k) = D at *
      have hx1 := hfi.1
      generalize hX : x.length = X at *
      subst hA
      have ⟨H_hbw, H_hsn, H_hfi, H_hci, H_hin, H_hcap, H_hX⟩ := hid7 hbw hsn hfi hci hin hcap hX; clear hbw hsn hfi hci hin hcap hX
      go_wp2_with (at_builtin; refine wp_app_at _ rfl (.tmp 19) (.tmp 23) _ rfl w.heap.size 3 i0 _ 8 Tryd.underlying45 hi hz0 hz1 hz2 rfl .i64 (some ⟨wr.heap.size, 0, none⟩) 1 1 [(X : Int)] rfl rfl (own_lit [(X : Int)] hsz (by simp) _ rfl) Ai ci X x H_hX.out rfl (H_hin.out.alloc _) ?_ ?_ ?_ ?_)
      · omega
      · omega
      · simp; omega
      intro A2 c2 w2 ho2 hg2 hB2
      have hb2 : Below w.heap.size w w2 := (own_lit (k := .i64) [(X : Int)] hsz (by simp) _ rfl).grow (H_hbw.out.alloc hsz _) hg2
      have hcall := refNext_at D A2 c2 (1 + X) ((X : Int) :: x) (by simp [H_hX.out]; omega) w2 H_hci.out ho2.ints (by omega) (fit_cons (by omega) H_hfi.out.2)
      have hs2 := hb2.size
      have ⟨H_ho2, H_hg2, H_hB2, H_hb2, H_hcall⟩ := hid5 ho2 hg2 hB2 hb2 hcall; clear ho2 hg2 hB2 hb2 hcall
      go_wp2_with fail
      refine H_hcall.out.mono ?_
      rintro e w3 ⟨rfl, hb3⟩
      have hb4 := H_hb2.out.trans (hb3.mono hs2)
      have ⟨H_hb3, H_hb4⟩ := hid2 hb3 hb4; clear hb3 hb4
      go_wp2_with fail
      go_roundw
      case rel => exact ⟨k + 1, by omega, by go_num, by rw [H_hsn.out], H_hb4.out⟩
      case measure => simp [intOf]; omega
    · have hall : ll.take k = ll := List.take_of_length_le (by rw [H_hN.out]; omega)
      rw [hall]
      have i2 : ¬ (k : Int) < (N : Int) := by omega
      have ⟨H_hbw, H_hall⟩ := hid2 hbw hall; clear hbw hall
      go_wp2_with fail
      go_ret
      exact ⟨rfl, H_hbw.out⟩
end Go.Proofs.YtmbmejclnagffaaDoor
