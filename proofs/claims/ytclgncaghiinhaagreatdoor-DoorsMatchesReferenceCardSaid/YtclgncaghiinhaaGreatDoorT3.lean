/- Contracts of the reference of digest: Decimal, Text, Next, Chain. -/
import Derived.Lib.AppendIntMem
import Derived.Lib.OthersKept
import Derived.Test.YtclgncaghiinhaaGreatDoorRows
import Derived.ProofKit
import Derived.LaidMore
import Derived.Stop.LaidErr
import Derived.Lib.LaidTab
import Derived.Laws.BytesArg
import Derived.Lib.Strings
import Derived.Lib.AppendStr
import Derived.Test.YtclgncaghiinhaaGreatDoorT2
set_option linter.unusedSimpArgs false
set_option linter.unusedVariables false
set_option maxRecDepth 100000
namespace Go.Proofs.YtclgncaghiinhaaGreatDoor
open Go.RowKit
/-- the library's table reads as its initialiser lays it -/
def Tab (w : World) : Prop := Lib.TabIs Tryz.prog w "internal/strconv.uint64pow10" .u64 Lib.pow10Tab
theorem Tab.below {w w' : World} (h : Tab w) (hb : Below w.heap.size w w') : Tab w' := Lib.tabBelow_of_tabIs h w' hb
theorem itoa_any (n : Int) (w : World) (h : -9223372036854775808 ≤ n ∧ n ≤ 9223372036854775807) (ht : Tab w) :
  Calls Tryz.prog 116 #[.int .i64 n] w fun e w' => e = .returned (.string (txt n)) ∧ Below w.heap.size w w' :=
 (Tryz.strconv_Itoa n h.1 h.2 w ht).mono fun e w' ⟨he, k, os, hw⟩ => ⟨he, by rw [hw]; exact Lib.below_grow _ w (Nat.le_refl _) k os⟩
theorem blk_grown {w w' : World} {g b : Nat} {o : Obj} (h : w.grownBy w' (some g)) (hb : w.heap[b]? = some o) (hne : b ≠ g) : w'.heap[b]? = some o := by
 rw [h.block b (lt_of_block hb) (by simpa using hne)]; exact hb
theorem blk_below {w w' : World} {b : Nat} {o : Obj} (h : Below w.heap.size w w') (hb : w.heap[b]? = some o) : w'.heap[b]? = some o := by
 rw [h.block b (lt_of_block hb)]; exact hb
theorem blk_alloc {w : World} {b : Nat} {o : Obj} (hb : w.heap[b]? = some o) (x : Obj) : (w.alloc x).heap[b]? = some o := by
 rw [Below.heap_alloc w x b (lt_of_block hb)]; exact hb
/-- one byte more -/
theorem add_one (g : Nat) (x d : Int) (w : World) (hx : 0 ≤ x ∧ x ≤ 255) (hg : w.heap[g]? = some (.cells #[.int .u64 d] 43)) (n : Nat) (hn : w.heap.size = n) :
  Calls Tryz.prog 123 #[.slice (some ⟨n, 0, none⟩) 1 1, .pointer (some ⟨g, 0, none⟩)] (w.alloc (.cells #[.int .u8 x] 5)) fun e w' => e = .returned (.tuple #[]) ∧ (w.alloc (.cells #[.int .u8 x] 5)).grownBy w' (some g) ∧ w'.heap[g]? = some (.cells #[.int .u64 (stepB d x)] 43) :=
 add_any g (some ⟨n, 0, none⟩) 1 [x] d _ (ints_new1 w .u8 x _ n hn) (by simp) (bytes_getD (by simpa using hx)) (blk_alloc hg _)
set_option maxHeartbeats 2000000 in
theorem digNext_any (d : Int) (A : Option Addr) (c : Nat) (l : List Int) (w : World) (hd : 0 ≤ d ∧ d ≤ 18446744073709551615) (hl : IntsAt w A .i64 l) (hn : l.length ≤ 1000000) (hb : Fit l) (ht : Tab w) :
    Calls Tryz.prog 101 #[.int .u64 d, .slice A l.length c] w fun e w' => e = .returned (.int .u64 (nextB d l)) ∧ Below w.heap.size w w' := by
  have hd0 := hd.1
  have hd1 := hd.2
  generalize hN : l.length = N at *
  have fin : nextB d l = sumB 14695981039346656037 (hi8 d ++ wordsB l) := rfl
  have ⟨Hhl, Hhb, HhN, Hht, Hhd, Hfin⟩ := hid6 hl hb hN ht hd fin; clear hl hb hN ht hd fin
  go_enter Tryz.func101, Tryz.ntmps101
  go_wp2_with fail
  refine (run_any _).mono ?_; rintro e w1 ⟨rfl, rfl⟩
  go_wp2_with fail
  go_loopw [7] (fun s wr => ∃ k : Nat, k ≤ 8 ∧ s = .int .i64 (56 - 8 * (k : Int)) ∧ Below w.heap.size w wr ∧ wr.heap[w.heap.size]? = some (.cells #[.int .u64 (sumB 14695981039346656037 ((hi8 d).take k))] 43)) (fun s _ => (intOf s + 8).toNat)
  case atStart => exact ⟨0, by omega, rfl, (Below.refl _ _).alloc (Nat.le_refl _) _, newAt rfl⟩
  case round =>
    obtain ⟨k, hk, rfl, hbw, hg⟩ := hrel
    by_cases hlt : k < 8
    · have hs : sumB 14695981039346656037 ((hi8 d).take (k + 1)) = stepB (sumB 14695981039346656037 ((hi8 d).take k)) (d / 2 ^ (56 - 8 * k) % 256) := by
        rw [sumB_take_succ _ _ _ (by rw [hi8_len]; exact hlt), hi8_get d k hlt]
      have g0 : (0 : Int) ≤ 56 - 8 * (k : Int) := by omega
      have g1 : (56 - 8 * (k : Int)).toNat = 56 - 8 * k := by omega
      generalize sumB 14695981039346656037 ((hi8 d).take k) = D at *
      have ⟨Hhbw, Hhg, Hhs⟩ := hid3 hbw hg hs; clear hbw hg hs
      have hsz := Hhbw.out.size
      have t1 : 8 * (k : Int) ≤ 56 := by omega
      go_wp2_with fail
      refine (add_one w.heap.size _ D wr (by omega) Hhg.out _ rfl).mono ?_
      rintro e w2 ⟨rfl, hg2, hh2⟩
      have hb2 : Below w.heap.size w w2 := (Hhbw.out.alloc hsz _).trans (below_of_grown hg2 (by simp; omega) (Nat.le_refl _))
      have ⟨Hhg2, Hhh2, Hhb2⟩ := hid3 hg2 hh2 hb2; clear hg2 hh2 hb2
      go_wp2_with fail
      go_roundw
      case rel => exact ⟨k + 1, by omega, by congr 1; omega, Hhb2.out, by rw [Hhs.out]; exact Hhh2.out⟩
      case measure => simp [intOf]; omega
    · have hk8 : (hi8 d).take k = hi8 d := List.take_of_length_le (by rw [hi8_len]; omega)
      rw [hk8] at hg
      have t1 : ¬ 8 * (k : Int) ≤ 56 := by omega
      have hfin : ∀ m, sumB 14695981039346656037 (hi8 d ++ wordsB (l.take m)) = sumB (sumB 14695981039346656037 (hi8 d)) (wordsB (l.take m)) := fun m => sumB_append _ _ _
      generalize sumB 14695981039346656037 (hi8 d) = D0 at *
      have hst : wr.heap[w.heap.size]? = some (.cells #[.int .u64 (sumB D0 (wordsB (l.take 0)))] 43) := hg
      have ⟨Hhbw, Hhg, Hhk8, Hhfin, Hhst⟩ := hid5 hbw hg hk8 hfin hst; clear hbw hg hk8 hfin hst
      go_wp2_with fail
      go_loopw [29] (fun i ws => ∃ n : Nat, n ≤ N ∧ i = .int .i64 n ∧ Below w.heap.size w ws ∧ ws.heap[w.heap.size]? = some (.cells #[.int .u64 (sumB D0 (wordsB (l.take n)))] 43)) (fun i _ => N - (intOf i).toNat)
      case atStart => exact ⟨0, by omega, rfl, Hhbw.out, Hhst.out⟩
      case round =>
        obtain ⟨n, hn2, rfl, hbs, hgs⟩ := hrel
        by_cases hln : n < N
        · obtain ⟨b, off, hA, hbl, hc⟩ := (Hhl.out.below hbs) n (by rw [HhN.out]; exact hln)
          have hbd := int_bd Hhb.out n
          have hsn := wordsB_snoc l n (by rw [HhN.out]; exact hln)
          have htb := Hht.out.below hbs
          have hsz := hbs.size
          have i1 : (0 : Int) ≤ (n : Int) := by omega
          have i2 : (n : Int) < (N : Int) := by omega
          have hfi : sumB D0 (wordsB (l.take (n + 1))) = stepB (sumB (sumB D0 (wordsB (l.take n))) (decB (l.getD n 0))) 32 := by rw [hsn, sumB_append, sumB_append]; rfl
          generalize l.getD n 0 = x at *
          generalize sumB D0 (wordsB (l.take n)) = D1 at *
          have hcall := fun W (hW : Tab W) => itoa_any x W hbd hW
          subst hA
          have ⟨Hhbs, Hhgs, Hhbd, Hhsn, Hhtb, Hhcall, Hhfi⟩ := hid7 hbs hgs hbd hsn htb hcall hfi; clear hbs hgs hbd hsn htb hcall hfi
          go_wp2_with fail
          refine (Hhcall.out _ Hhtb.out).mono ?_
          rintro e w2 ⟨rfl, hb2⟩
          have hs2 := hb2.size
          have hbw2 := Hhbs.out.trans (hb2.mono hsz)
          have hg2 := blk_below hb2 Hhgs.out
          have hk0 := World.iter_heap w2 (txt x) 0
          have hb3 : Below w.heap.size w (w2.iter (txt x) 0) := hbw2.alloc (by omega) _
          have hg3 : (w2.iter (txt x) 0).heap[w.heap.size]? = some (.cells #[.int .u64 (sumB D1 ((decB x).take 0))] 43) := blk_alloc hg2 _
          have hne : w.heap.size < w2.heap.size := by have := lt_of_block Hhgs.out; omega
          obtain ⟨it, hit⟩ : ∃ it, w2.heap.size = it := ⟨_, rfl⟩
          rw [hit] at hk0 hne
          obtain ⟨wo, hwo⟩ : ∃ wo, w2.iter (txt x) 0 = wo := ⟨_, rfl⟩
          rw [hwo] at hk0 hb3 hg3
          have ⟨Hhb2, Hhbw2, Hhg2, Hhk0, Hhb3, Hhg3⟩ := hid6 hb2 hbw2 hg2 hk0 hb3 hg3; clear hb2 hbw2 hg2 hk0 hb3 hg3
          go_wp2_with fail
          have ⟨Hhit, Hhwo⟩ := hid2 hit hwo; clear hit hwo
          go_loopw [11] (fun _ wt => ∃ p : Nat, p ≤ (txt x).size ∧ wt.heap[it]? = some (.stringIter (txt x) p) ∧ wt.heap[w.heap.size]? = some (.cells #[.int .u64 (sumB D1 ((decB x).take p))] 43) ∧ Below w.heap.size w wt) (fun _ wt => (txt x).size - wt.iterPos it)
          case atStart => exact ⟨0, by omega, Hhk0.out, Hhg3.out, Hhb3.out⟩
          case round =>
            obtain ⟨p, hp0, hk, hgt, hbt⟩ := hrel
            have hst := hbt.size
            by_cases hp : p < (txt x).size
            · have hasc := txt_ascii x p hp
              have hdg := decB_get x p hp
              have hnext : ∀ ty, (Instr.next (.pointer (some ⟨it, 0, none⟩)) true ty).run Tryz.prog wr = _ := fun ty => Lib.run_next_ascii_at wr it (txt x) p ty hk hp hasc
              have hss := sumB_take_succ D1 (decB x) p (by rw [← txt_size]; exact hp)
              rw [hdg] at hss
              generalize ((txt x)[p]'hp).toNat = y at *
              have hk1 := Lib.iterAt_heap wr it (txt x) p (p + 1) hk
              have hb1 : Below w.heap.size w (wr.iterAt it (txt x) (p + 1)) := Lib.below_iterAt hbt (by omega) (txt x) (p + 1)
              have hg1 : (wr.iterAt it (txt x) (p + 1)).heap[w.heap.size]? = _ := (Lib.iterAt_other wr it w.heap.size (txt x) (p + 1) (by omega)).trans hgt
              have hmu : wr.iterPos it = p := by simp [World.iterPos, hk]
              generalize wr.iterAt it (txt x) (p + 1) = W1 at hnext hk1 hb1 hg1
              generalize sumB D1 ((decB x).take p) = D2 at *
              have hs1 := hb1.size
              have t3 : (y : Int) % 256 = y := by omega
              have ⟨Hhk, Hhgt, Hhbt, Hhdg, Hhss, Hhk1, Hhb1, Hhg1⟩ := hid8 hk hgt hbt hdg hss hk1 hb1 hg1; clear hk hgt hbt hdg hss hk1 hb1 hg1; have Hhmu := Lib.hid hmu; clear hmu
              go_wp2_with fail
              refine (add_one w.heap.size (y : Int) D2 W1 (by omega) Hhg1.out _ rfl).mono ?_
              rintro e w3 ⟨rfl, hg4, hh4⟩
              have hb4 : Below w.heap.size w w3 := (Hhb1.out.alloc hs1 _).trans (below_of_grown hg4 (by simp; omega) (Nat.le_refl _))
              have hk4 := blk_grown hg4 (blk_alloc Hhk1.out _) (by omega)
              have ⟨Hhg4, Hhh4, Hhb4, Hhk4⟩ := hid4 hg4 hh4 hb4 hk4; clear hg4 hh4 hb4 hk4
              go_wp2_with fail
              go_roundw
              case rel => exact ⟨p + 1, by omega, Hhk4.out, by rw [Hhss.out]; exact Hhh4.out, Hhb4.out⟩
              case measure =>
                have hmu2 : w3.iterPos it = p + 1 := by have := Hhk4.out; simp [World.iterPos, this]
                rw [Hhmu.out, hmu2]; omega
            · have hnext : ∀ ty, (Instr.next (.pointer (some ⟨it, 0, none⟩)) true ty).run Tryz.prog wr = _ := fun ty => Lib.run_next_end_at wr it (txt x) p ty hk hp
              have hall : (decB x).take p = decB x := List.take_of_length_le (by rw [← txt_size]; omega)
              rw [hall] at hgt
              generalize sumB D1 (decB x) = D2 at *
              have ⟨Hhk, Hhgt, Hhbt, Hhall⟩ := hid4 hk hgt hbt hall; clear hk hgt hbt hall
              go_wp2_with fail
              refine (add_one w.heap.size 32 D2 wr (by omega) Hhgt.out _ rfl).mono ?_
              rintro e w3 ⟨rfl, hg4, hh4⟩
              have hb4 : Below w.heap.size w w3 := (Hhbt.out.alloc hst _).trans (below_of_grown hg4 (by simp; omega) (Nat.le_refl _))
              have ⟨Hhg4, Hhh4, Hhb4⟩ := hid3 hg4 hh4 hb4; clear hg4 hh4 hb4
              go_wp2_with fail
              go_roundw
              case rel => exact ⟨n + 1, by omega, by go_num, Hhb4.out, by rw [Hhfi.out]; exact Hhh4.out⟩
              case measure => simp [intOf]; omega
        · have hall : l.take n = l := List.take_of_length_le (by rw [HhN.out]; omega)
          rw [hall] at hgs
          have hcl := cell_of_one hgs
          have i2 : ¬ (n : Int) < (N : Int) := by omega
          have hff := Hhfin.out n
          rw [hall] at hff
          generalize sumB D0 (wordsB l) = D2 at *
          have ⟨Hhgs, Hhbs, Hhall, Hhff⟩ := hid4 hgs hbs hall hff; clear hgs hbs hall hff
          go_wp2_with fail
          refine (tell_any _ _ _ hcl).mono ?_
          rintro e w3 ⟨rfl, rfl⟩
          go_wp2_with fail
          go_ret
          exact ⟨ret_int (by rw [Hfin.out, Hhff.out]), Hhbs.out⟩
section
open Go.ChangeShapes Go.WideShapes Go.ChangeAt Go.RowKit
theorem own : ownKnob Tryz.prog.godebug = none := by kernel_rfl
theorem laidOut : laidOutB Tryz.prog = true := by kernel_rfl
def seatLaid : List (String × DataW Unit) := [("math/bits.deBruijn32tab", Rows.laid_math_bits_deBruijn32tab), ("math/bits.deBruijn64tab", Rows.laid_math_bits_deBruijn64tab), ("internal/strconv.uint64pow10", Rows.laid_internal_strconv_uint64pow10)]
theorem door_met (os : Os) (args : Array Value) : laidMetH Tryz.prog seatLaid ((World.doorLaid Tryz.prog 24 os).forCall (fun _ _ => 0) ⟨#[], args, []⟩).memory :=
 laidMetH_of_parts3 (fuel := 8) (laidMet_of_run' 8 (by kernel_rfl) (by kernel_rfl)) (by kernel_rfl) (by kernel_rfl)
theorem tab_of_laid {W : World} (h : laidMetH Tryz.prog seatLaid W) : Tab W := by
 rw [MakeChecks.laidMetH_plain _ _ _ (by kernel_rfl)] at h
 have h2 : laidMet Tryz.prog (("internal/strconv.uint64pow10", Lib.tabData .u64 Lib.pow10Tab) :: []) W := h.tail.tail
 obtain ⟨g, hg⟩ : ∃ g, Tryz.prog.globalNamed "internal/strconv.uint64pow10" = some g := ⟨0, by kernel_rfl⟩
 exact Lib.tabIs_of_head (g := 0) (t := 180) (e := 43) (n := 20) (by kernel_rfl) (by kernel_rfl) Tryz.underlying180 Tryz.underlying43 (by kernel_rfl) (by kernel_rfl) h2
end
theorem infoI64 : (Tryz.prog.info? 3).map (fun i => (i.zero, i.size, i.bytes)) = some (some (.int .i64 0), 1, 8) := by kernel_rfl
theorem infoU8 : (Tryz.prog.info? 5).map (fun i => (i.zero, i.size, i.bytes)) = some (some (.int .u8 0), 1, 1) := by kernel_rfl
theorem fit_cons {x : Int} {l : List Int} (hx : -9223372036854775808 ≤ x ∧ x ≤ 9223372036854775807) (h : Fit l) : Fit (x :: l) := fun y hy => by
 rcases List.mem_cons.1 hy with rfl | h1
 ·exact hx
 ·exact h y h1
set_option maxHeartbeats 1000000 in
theorem refSum_any (A : Option Addr) (c : Nat) (l : List Int) (w : World) (hl : IntsAt w A .u8 l) (hn : l.length ≤ 9223372036854775806) (hb : ∀ i, 0 ≤ l.getD i 0 ∧ l.getD i 0 ≤ 255) :
  Calls Tryz.prog 114 #[.slice A l.length c] w fun e w' => e = .returned (.int .u64 (sumB 14695981039346656037 l)) ∧ w = w' := by
 generalize hN : l.length = N at *
 have ⟨Hhl, Hhb, HhN⟩ := hid3 hl hb hN; clear hl hb hN
 go_enter Tryz.func114, Tryz.ntmps114
 go_wp2
 go_loop [3, 4] (fun d i => ∃ k : Nat, k ≤ N ∧ i = .int .i64 k ∧ d = .int .u64 (sumB 14695981039346656037 (l.take k))) (fun _ i => N - (intOf i).toNat)
 case atStart => exact ⟨0, by omega, rfl, rfl⟩
 case round =>
  obtain ⟨k, hk, rfl, rfl⟩ := hrel
  by_cases hlt : k < N
  ·obtain ⟨b, off, hA, hbs, hc⟩ := Hhl.out k (by rw [HhN.out]; exact hlt)
   have hB := Hhb.out k
   have hB1 := hB.1
   have hB2 := hB.2
   have hs := sumB_take_succ 14695981039346656037 l k (by rw [HhN.out]; exact hlt)
   subst hA
   generalize l.getD k 0 = x at *
   generalize sumB 14695981039346656037 (l.take k) = D at *
   have ⟨Hhs, HhB⟩ := hid2 hs hB; clear hs hB
   go_wp2
   go_round
   case rel => exact ⟨k + 1, by omega, by go_num, by rw [Hhs.out]; rfl⟩
   case measure => simp [intOf]; omega
  ·have ht : l.take k = l := List.take_of_length_le (by rw [HhN.out]; omega)
   rw [ht]
   have Hht := Lib.hid ht; clear ht
   go_wp2
   go_ret
   exact ⟨rfl, rfl⟩
/-- two lists of integers are equal -/
def sameB (l m : List Int) : Bool := l == m
theorem sameB_iff {l m : List Int} : sameB l m = true ↔ l = m := by simp [sameB]
theorem run_str (w : World) (A : Option Addr) (l : List Int) (c : Nat) (h : IntsAt w A .u8 l) :
  (convert 161 9 (.slice A l.length c)).run Tryz.prog w = .ok (.string (strOfNums l)) w := by
 cases l with
 | nil =>
  cases A with
  | none => exact run_convert_bytes_nil w _ _ Tryz.underlying161 Tryz.underlying5 0 c _ Tryz.underlying9
  | some a =>
   rw [run_convert_bytes_string w _ _ _ _ _ c Tryz.underlying161 Tryz.underlying5 Tryz.underlying9]
   have := run_bytesToString (P := Tryz.prog) w a 0 c [] (by simp [loadCells, loadCellsFrom])
   exact this
 | cons x r =>
  obtain ⟨b, off, rfl, _⟩ := h 0 (by simp)
  refine run_convert_bytes_arg w _ _ Tryz.underlying161 Tryz.underlying5 b off (x :: r).length c (x :: r) rfl (fun i hi => ?_) _ Tryz.underlying9
  obtain ⟨b', off', e, _, hc⟩ := h i hi
  injection e with e
  injection e with e1 e2
  subst e1 e2
  exact hc
theorem list_ne_at {l m : List Int} {k : Nat} (h : l.getD k 0 ≠ m.getD k 0) : sameB l m = false := by
 rw [Bool.eq_false_iff]; intro h2; rw [sameB_iff] at h2; rw [h2] at h; exact h rfl
theorem list_eq_of {l m : List Int} (hl : l.length = m.length) (h : ∀ k, k < l.length → l.getD k 0 = m.getD k 0) : sameB l m = true := by
 rw [sameB_iff]
 apply List.ext_getElem hl
 intro i h1 h2
 have := h i h1
 simpa [List.getD_eq_getElem?_getD, h1, h2] using this
/-- the digits of a number, the last one first -/
def revD : Nat → List Int
 | u => if h : u = 0 then [] else (48 + (u : Int) % 10) :: revD (u / 10)
termination_by u => u
decreasing_by omega
theorem revD_zero : revD 0 = [] := by rw [revD]; simp
theorem revD_pos {u : Nat} (h : u ≠ 0) : revD u = (48 + (u : Int) % 10) :: revD (u / 10) := by rw [revD]; simp [h]
theorem revD_dec : ∀ (k u : Nat), u < k → u ≠ 0 → (revD u).reverse = (Lib.decDigits u).map fun b => (b.toNat : Int)
 | 0, u, h, _ => by omega
 | k + 1, u, h, h0 => by
  have e : ∀ d : Nat, d < 10 → (((UInt8.ofNat (48 + d)).toNat : Nat) : Int) = 48 + (d : Int) := fun d hd => by
   have : (UInt8.ofNat (48 + d)).toNat = 48 + d := by simp; omega
   rw [this]; omega
  rw [revD_pos h0, Lib.decDigits]
  by_cases h1 : u < 10
  ·have h2 : u / 10 = 0 := by omega
   have h3 : u % 10 = u := by omega
   rw [h2, revD_zero, dif_pos h1]
   have := e u h1
   simp only [List.reverse_cons, List.reverse_nil, List.nil_append, List.map_cons, List.map_nil, this]
   congr 1; omega
  ·have ih := revD_dec k (u / 10) (by omega) (by omega)
   have := e (u % 10) (by omega)
   rw [dif_neg h1, List.map_append, ← ih]
   simp only [List.reverse_cons, List.map_cons, List.map_nil, this]
   rfl
theorem dec_pos {n : Int} (h : 0 < n) : decB n = (revD n.toNat).reverse := by
 rw [revD_dec _ _ (Nat.lt_succ_self _) (by omega), decB, Lib.itoa, if_neg (by omega)]
theorem dec_neg {n : Int} (h : n < 0) : decB n = (revD n.natAbs ++ [45]).reverse := by
 rw [List.reverse_append, revD_dec _ _ (Nat.lt_succ_self _) (by omega), decB, Lib.itoa, if_pos (by omega)]
 rfl
theorem revD_len (k u : Nat) (h : u < 10 ^ k) : (revD u).length ≤ k := by
  induction k generalizing u with
  | zero => have : u = 0 := by simpa using h
            subst this; simp [revD_zero]
  | succ k ih =>
    by_cases h0 : u = 0
    · subst h0; simp [revD_zero]
    · rw [revD_pos h0, List.length_cons]
      have := ih (u / 10) (by rw [Nat.pow_succ] at h; omega)
      omega
theorem revD_mem : ∀ (k u : Nat), u < k → ∀ x ∈ revD u, 45 ≤ x ∧ x ≤ 57
 | 0, u, h, _, _ => by omega
 | k + 1, u, h, x, hx => by
  by_cases h0 : u = 0
  ·subst h0; rw [revD_zero] at hx; cases hx
  ·rw [revD_pos h0] at hx
   rcases List.mem_cons.1 hx with rfl | h1
   ·omega
   ·exact revD_mem k (u / 10) (by omega) x h1
theorem str_dec (n : Int) : strOfNums (decB n) = txt n := by
 have : ((decB n).map fun x => UInt8.ofNat x.toNat) = Lib.itoa n := by
  rw [decB, List.map_map]
  conv => rhs; rw [← List.map_id (Lib.itoa n)]
  apply List.map_congr_left
  intro b _
  simp
 rw [strOfNums, this]; rfl
theorem rev_getD (L : List Int) (k : Nat) (h : k < L.length) : L.reverse.getD k 0 = L.getD (L.length - 1 - k) 0 := by
 simp [List.getD_eq_getElem?_getD, List.getElem?_reverse h]
theorem tmod_neg (M : Nat) : (-(M : Int)).tmod 10 = -((M : Int) % 10) := by rw [Int.neg_tmod]; congr 1
theorem tdiv_neg (M : Nat) : (-(M : Int)).tdiv 10 = -((M / 10 : Nat) : Int) := by rw [Int.neg_tdiv]; congr 1
set_option maxHeartbeats 4000000 in
theorem dec_loop_pos (n : Int) (w : World) (h1 : 0 < n) (h2 : n ≤ 9223372036854775807) :
  Calls Tryz.prog 131 #[.int .i64 n] w fun e w' => e = .returned (.string (txt n)) ∧ Below w.heap.size w w' := by
 obtain ⟨i0, hi, hz0, hz1, hz2⟩ := info_parts infoU8
 obtain ⟨u, rfl⟩ := Int.eq_ofNat_of_zero_le (Int.le_of_lt h1)
 have hdec := dec_pos h1
 rw [Int.toNat_natCast] at hdec
 have hlen := revD_len 20 u (by omega)
 have hb0 : ((u : Int) == 0) = false := by rw [beq_eq_false_iff_ne]; omega
 have hneg : decide ((u : Int) < 0) = false := by simp
 have hrm := revD_mem _ u (Nat.lt_succ_self _)
 generalize hR : revD u = R at *
 have hst := str_dec (u : Int)
 generalize hTX : txt (u : Int) = TX at *
 generalize hDB : decB (u : Int) = DB at *
 have hu : u ≤ 9223372036854775808 := by omega
 have ⟨Hhdec, HhR, Hhlen, Hhrm, Hhst, HhTX, HhDB⟩ := hid7 hdec hR hlen hrm hst hTX hDB; clear hdec hR hlen hrm hst hTX hDB
 go_enter Tryz.func131, Tryz.ntmps131
 go_wp2_with fail
 go_loopw [3, 4] (fun b m wr => ∃ (B : Option Addr) (d : Nat) (l2 : List Int) (M : Nat), b = .slice B l2.length d ∧ m = .int .i64 (M : Int) ∧ M ≤ u ∧ OwnInts wr w.heap.size 5 .u8 B d l2 ∧ l2 ++ revD M = R ∧ Below w.heap.size w wr) (fun _ m _ => (intOf m).natAbs)
 case atStart => exact ⟨none, 0, [], u, rfl, rfl, Nat.le_refl _, OwnInts.nil _ _ _ _, HhR.out, Below.refl _ _⟩
 case round =>
  obtain ⟨B, d, l2, M, rfl, rfl, hM, ho, hv, hbw⟩ := hrel
  have hll : l2.length ≤ 20 := by have := congrArg List.length hv; have := Hhlen.out; simp at *; omega
  have hsz := hbw.size
  by_cases h0 : M = 0
  ·rw [h0, revD_zero, List.append_nil] at hv
   subst hv
   have hM0 : (M : Int) = 0 := by omega
   rw [hM0]
   clear hM0
   obtain ⟨L, hL⟩ : ∃ L, L = l2 := ⟨_, rfl⟩
   have hLd : DB = L.reverse := by rw [hL]; exact Hhdec.out
   have hLm : ∀ x ∈ L, 45 ≤ x ∧ x ≤ 57 := by rw [hL]; exact Hhrm.out
   rw [← hL] at ho hll ⊢
   clear hL
   obtain ⟨N, hN⟩ : ∃ N, L.length = N := ⟨_, rfl⟩
   have hN21 : N ≤ 21 := by omega
   have hi1 := ho.ints
   have hcp := ho.cap
   rw [hN] at hcp hll ⊢
   have hbw1 := hbw
   have ⟨Hho, Hhbw, Hhi1, HhLd, HhLm, HhN, Hhbw1⟩ := hid7 ho hbw hi1 hLd hLm hN hbw1; clear ho hbw hi1 hLd hLm hN hbw1
   obtain ⟨w1, hw1⟩ : ∃ w1, w1 = wr := ⟨_, rfl⟩
   rw [← hw1] at Hhi1 Hhbw1 hsz ⊢
   have hsz1 := hsz
   clear hw1 Hhbw Hho
   go_wp2_with fail
   go_loopw [6, 7] (fun b i ws => ∃ (k : Nat) (B2 : Option Addr) (d2 : Nat), k ≤ N ∧ i = .int .i64 ((N : Int) - 1 - k) ∧ b = .slice B2 k d2 ∧ OwnInts ws w1.heap.size 5 .u8 B2 d2 (L.reverse.take k) ∧ Below w1.heap.size w1 ws) (fun _ i _ => (intOf i + 1).toNat)
   case atStart => exact ⟨0, none, 0, by omega, by congr 1; omega, rfl, OwnInts.nil _ _ _ _, Below.refl _ _⟩
   case round =>
    obtain ⟨k, B2, d2, hk, rfl, rfl, ho2, hb2⟩ := hrel
    have hs2 := hb2.size
    have htl : (L.reverse.take k).length = k := by simp [HhN.out]; omega
    by_cases hlt : k < N
    ·obtain ⟨b, off, hA, hbs, hc⟩ := (Hhi1.out.below hb2) (N - 1 - k) (by rw [HhN.out]; omega)
     have hrv := rev_getD L k (by rw [HhN.out]; exact hlt)
     rw [HhN.out] at hrv
     have hsn := take_snocD L.reverse k 0 (by rw [List.length_reverse, HhN.out]; exact hlt)
     rw [hrv] at hsn
     generalize L.getD (N - 1 - k) 0 = x at *
     have i1 : (0 : Int) ≤ (N : Int) - 1 - k := by omega
     have i2 : (N : Int) - 1 - k < (N : Int) := by omega
     have i4 : (k : Int) ≤ (N : Int) - 1 := by omega
     have i3 : ((N : Int) - 1 - k).toNat = N - 1 - k := by omega
     subst hA
     have ⟨Hho2, Hhb2, Hhtl, Hhrv, Hhsn⟩ := hid5 ho2 hb2 htl hrv hsn; clear ho2 hb2 htl hrv hsn
     go_wp2_with (at_builtin; refine wp_app_at _ rfl (.tmp 39) (.tmp 44) _ rfl w1.heap.size 5 i0 _ 1 Tryz.underlying161 hi hz0 hz1 hz2 rfl .u8 B2 d2 k (L.reverse.take k) Hhtl.out rfl (Hho2.out.alloc _) (some ⟨wr.heap.size, 0, none⟩) 1 1 [x] rfl rfl (ints_new1 _ _ _ _ _ rfl) ?_ ?_ ?_ ?_)
     ·omega
     ·omega
     ·first | omega | (simp; omega)
     intro B' d' w3 ho3 hg3 hB3
     have hb3 := (Hho2.out.alloc (.cells #[.int .u8 x] 5)).grow (Hhb2.out.alloc hs2 _) hg3
     have ⟨Hho3, Hhg3, HhB3, Hhb3⟩ := hid4 ho3 hg3 hB3 hb3; clear ho3 hg3 hB3 hb3
     go_wp2_with fail
     go_roundw
     case rel => exact ⟨k + 1, B', d', by omega, by congr 1; omega, rfl, by rw [Hhsn.out]; exact Hho3.out, Hhb3.out⟩
     case measure => simp [intOf]; omega
    ·have hall : L.reverse.take k = L.reverse := List.take_of_length_le (by simp [HhN.out]; omega)
     rw [hall] at ho2 htl
     have hkN : k = N := by omega
     have i1 : ¬ (0 : Int) ≤ (N : Int) - 1 - k := by omega
     have i4 : ¬ (k : Int) ≤ (N : Int) - 1 := by omega
     have hrs := run_str wr B2 L.reverse d2 ho2.ints
     rw [htl, ← HhLd.out, Hhst.out] at hrs
     have ⟨Hho2, Hhb2, Hhtl, Hhall, HhkN⟩ := hid5 ho2 hb2 htl hall hkN; clear ho2 hb2 htl hall hkN
     go_wp2_with fail
     go_ret
     exact ⟨rfl, Hhbw1.out.trans (Hhb2.out.mono hsz1)⟩
  ·have hne : ((M : Int) != 0) = true := by rw [bne_iff_ne]; omega
   rw [revD_pos h0] at hv
   have hd0 : ¬ (M : Int) % 10 < 0 := by omega
   have e256 : (48 + (M : Int) % 10) % 256 = 48 + (M : Int) % 10 := by omega
   have ⟨Hho, Hhv, Hhbw⟩ := hid3 ho hv hbw; clear ho hv hbw
   go_wp2_with (at_builtin; refine wp_app_ints _ rfl (.tmp 21) (.tmp 25) _ rfl w.heap.size 5 i0 _ 1 Tryz.underlying161 hi hz0 hz1 hz2 rfl .u8 B d l2 rfl (Hho.out.alloc _) (some ⟨wr.heap.size, 0, none⟩) 1 [48 + (M : Int) % 10] rfl (ints_new1 _ _ _ _ _ rfl) ?_ ?_ ?_ ?_)
   ·first | omega | (simp; omega)
   ·first | omega | (simp; omega)
   ·first | omega | (simp; omega)
   intro B' d' w2 ho2 hg2 hB2
   have hb2 := (Hho.out.alloc (.cells #[.int .u8 (48 + (M : Int) % 10)] 5)).grow (Hhbw.out.alloc hsz _) hg2
   have ⟨Hho2, Hhg2, HhB2, Hhb2⟩ := hid4 ho2 hg2 hB2 hb2; clear ho2 hg2 hB2 hb2
   go_wp2_with fail
   go_roundw
   case rel =>
    refine ⟨B', d', l2 ++ [48 + (M : Int) % 10], M / 10, by simp, by go_num, by omega, Hho2.out, ?_, Hhb2.out⟩
    rw [← Hhv.out]; simp
   case measure => simp [intOf]; omega
set_option maxHeartbeats 4000000 in
theorem dec_loop_neg (n : Int) (w : World) (h1 : n < 0) (h2 : -9223372036854775808 ≤ n) :
  Calls Tryz.prog 131 #[.int .i64 n] w fun e w' => e = .returned (.string (txt n)) ∧ Below w.heap.size w w' := by
 obtain ⟨i0, hi, hz0, hz1, hz2⟩ := info_parts infoU8
 obtain ⟨u, rfl⟩ : ∃ u : Nat, n = -(u : Int) := ⟨n.natAbs, by omega⟩
 have hdec := dec_neg h1
 rw [Int.natAbs_neg, Int.natAbs_natCast] at hdec
 have hlen := revD_len 20 u (by omega)
 have hb0 : (-(u : Int) == 0) = false := by rw [beq_eq_false_iff_ne]; omega
 have hneg : decide (-(u : Int) < 0) = true := by simp; omega
 have hrm := revD_mem _ u (Nat.lt_succ_self _)
 generalize hR : revD u = R at *
 have hst := str_dec (-(u : Int))
 generalize hTX : txt (-(u : Int)) = TX at *
 generalize hDB : decB (-(u : Int)) = DB at *
 have hu : u ≤ 9223372036854775808 := by omega
 have ⟨Hhdec, HhR, Hhlen, Hhrm, Hhst, HhTX, HhDB⟩ := hid7 hdec hR hlen hrm hst hTX hDB; clear hdec hR hlen hrm hst hTX hDB
 go_enter Tryz.func131, Tryz.ntmps131
 go_wp2_with fail
 go_loopw [3, 4] (fun b m wr => ∃ (B : Option Addr) (d : Nat) (l2 : List Int) (M : Nat), b = .slice B l2.length d ∧ m = .int .i64 (-(M : Int)) ∧ M ≤ u ∧ OwnInts wr w.heap.size 5 .u8 B d l2 ∧ l2 ++ revD M = R ∧ Below w.heap.size w wr) (fun _ m _ => (intOf m).natAbs)
 case atStart => exact ⟨none, 0, [], u, rfl, rfl, Nat.le_refl _, OwnInts.nil _ _ _ _, HhR.out, Below.refl _ _⟩
 case round =>
  obtain ⟨B, d, l2, M, rfl, rfl, hM, ho, hv, hbw⟩ := hrel
  have hll : l2.length ≤ 20 := by have := congrArg List.length hv; have := Hhlen.out; simp at *; omega
  have hsz := hbw.size
  by_cases h0 : M = 0
  ·rw [h0, revD_zero, List.append_nil] at hv
   subst hv
   have hM0 : (-(M : Int)) = 0 := by omega
   rw [hM0]
   clear hM0
   have ⟨Hho, Hhbw⟩ := hid2 ho hbw; clear ho hbw
   go_wp2_with (at_builtin; refine wp_app_ints _ rfl (.tmp 29) (.tmp 30) _ rfl w.heap.size 5 i0 _ 1 Tryz.underlying161 hi hz0 hz1 hz2 rfl .u8 B d l2 rfl (Hho.out.alloc _) (some ⟨wr.heap.size, 0, none⟩) 1 [45] rfl (ints_new1 _ _ _ _ _ rfl) ?_ ?_ ?_ ?_)
   ·first | omega | (simp; omega)
   ·first | omega | (simp; omega)
   ·first | omega | (simp; omega)
   intro B d w1 ho1 hg1 hB1
   have hbw1 := (Hho.out.alloc (.cells #[.int .u8 45] 5)).grow (Hhbw.out.alloc hsz _) hg1
   obtain ⟨L, hL⟩ : ∃ L, L = l2 ++ [45] := ⟨_, rfl⟩
   have hLd : DB = L.reverse := by rw [hL]; exact Hhdec.out
   have hLm : ∀ x ∈ L, 45 ≤ x ∧ x ≤ 57 := by
    rw [hL]; intro x hx
    rcases List.mem_append.1 hx with h | h
    ·exact Hhrm.out x h
    ·have : x = 45 := by simpa using h
     omega
   rw [← hL] at ho1
   have hll1 : L.length ≤ 21 := by rw [hL]; simp; omega
   obtain ⟨N, hN⟩ : ∃ N, L.length = N := ⟨_, rfl⟩
   have hl2N : l2.length + 1 = N := by rw [← hN, hL]; simp
   rw [hl2N]
   clear hL hl2N
   have hN21 : N ≤ 21 := by omega
   have hi1 := ho1.ints
   have hcp := ho1.cap
   rw [hN] at hcp hll1
   have hsz1 := hbw1.size
   clear hg1 hB1
   have ⟨Hho1, Hhbw1, Hhi1, HhLd, HhLm, HhN⟩ := hid6 ho1 hbw1 hi1 hLd hLm hN; clear ho1 hbw1 hi1 hLd hLm hN
   go_wp2_with fail
   go_loopw [6, 7] (fun b i ws => ∃ (k : Nat) (B2 : Option Addr) (d2 : Nat), k ≤ N ∧ i = .int .i64 ((N : Int) - 1 - k) ∧ b = .slice B2 k d2 ∧ OwnInts ws w1.heap.size 5 .u8 B2 d2 (L.reverse.take k) ∧ Below w1.heap.size w1 ws) (fun _ i _ => (intOf i + 1).toNat)
   case atStart => exact ⟨0, none, 0, by omega, by congr 1; omega, rfl, OwnInts.nil _ _ _ _, Below.refl _ _⟩
   case round =>
    obtain ⟨k, B2, d2, hk, rfl, rfl, ho2, hb2⟩ := hrel
    have hs2 := hb2.size
    have htl : (L.reverse.take k).length = k := by simp [HhN.out]; omega
    by_cases hlt : k < N
    ·obtain ⟨b, off, hA, hbs, hc⟩ := (Hhi1.out.below hb2) (N - 1 - k) (by rw [HhN.out]; omega)
     have hrv := rev_getD L k (by rw [HhN.out]; exact hlt)
     rw [HhN.out] at hrv
     have hsn := take_snocD L.reverse k 0 (by rw [List.length_reverse, HhN.out]; exact hlt)
     rw [hrv] at hsn
     generalize L.getD (N - 1 - k) 0 = x at *
     have i1 : (0 : Int) ≤ (N : Int) - 1 - k := by omega
     have i2 : (N : Int) - 1 - k < (N : Int) := by omega
     have i4 : (k : Int) ≤ (N : Int) - 1 := by omega
     have i3 : ((N : Int) - 1 - k).toNat = N - 1 - k := by omega
     subst hA
     have ⟨Hho2, Hhb2, Hhtl, Hhrv, Hhsn⟩ := hid5 ho2 hb2 htl hrv hsn; clear ho2 hb2 htl hrv hsn
     go_wp2_with (at_builtin; refine wp_app_at _ rfl (.tmp 39) (.tmp 44) _ rfl w1.heap.size 5 i0 _ 1 Tryz.underlying161 hi hz0 hz1 hz2 rfl .u8 B2 d2 k (L.reverse.take k) Hhtl.out rfl (Hho2.out.alloc _) (some ⟨wr.heap.size, 0, none⟩) 1 1 [x] rfl rfl (ints_new1 _ _ _ _ _ rfl) ?_ ?_ ?_ ?_)
     ·omega
     ·omega
     ·first | omega | (simp; omega)
     intro B' d' w3 ho3 hg3 hB3
     have hb3 := (Hho2.out.alloc (.cells #[.int .u8 x] 5)).grow (Hhb2.out.alloc hs2 _) hg3
     have ⟨Hho3, Hhg3, HhB3, Hhb3⟩ := hid4 ho3 hg3 hB3 hb3; clear ho3 hg3 hB3 hb3
     go_wp2_with fail
     go_roundw
     case rel => exact ⟨k + 1, B', d', by omega, by congr 1; omega, rfl, by rw [Hhsn.out]; exact Hho3.out, Hhb3.out⟩
     case measure => simp [intOf]; omega
    ·have hall : L.reverse.take k = L.reverse := List.take_of_length_le (by simp [HhN.out]; omega)
     rw [hall] at ho2 htl
     have hkN : k = N := by omega
     have i1 : ¬ (0 : Int) ≤ (N : Int) - 1 - k := by omega
     have i4 : ¬ (k : Int) ≤ (N : Int) - 1 := by omega
     have hrs := run_str wr B2 L.reverse d2 ho2.ints
     rw [htl, ← HhLd.out, Hhst.out] at hrs
     have ⟨Hho2, Hhb2, Hhtl, Hhall, HhkN⟩ := hid5 ho2 hb2 htl hall hkN; clear ho2 hb2 htl hall hkN
     go_wp2_with fail
     go_ret
     exact ⟨rfl, Hhbw1.out.trans (Hhb2.out.mono hsz1)⟩
  ·have hne : ((-(M : Int)) != 0) = true := by rw [bne_iff_ne]; omega
   rw [revD_pos h0] at hv
   have e1 := tmod_neg M
   have e2 := tdiv_neg M
   have hMM : 0 ≤ (M : Int) % 10 ∧ (M : Int) % 10 ≤ 9 := by omega
   generalize hr : (M : Int) % 10 = r at *
   have hr1 := hMM.1
   have hr2 := hMM.2
   by_cases hz : r = 0
   ·subst hz
    rw [Int.neg_zero] at e1
    have ⟨Hho, Hhv, Hhbw, Hhr, HhMM⟩ := hid5 ho hv hbw hr hMM; clear ho hv hbw hr hMM
    go_wp2_with (at_builtin; refine wp_app_ints _ rfl (.tmp 21) (.tmp 25) _ rfl w.heap.size 5 i0 _ 1 Tryz.underlying161 hi hz0 hz1 hz2 rfl .u8 B d l2 rfl (Hho.out.alloc _) (some ⟨wr.heap.size, 0, none⟩) 1 [48] rfl (ints_new1 _ _ _ _ _ rfl) ?_ ?_ ?_ ?_)
    ·first | omega | (simp; omega)
    ·first | omega | (simp; omega)
    ·first | omega | (simp; omega)
    intro B' d' w2 ho2 hg2 hB2
    have hb2 := (Hho.out.alloc (.cells #[.int .u8 48] 5)).grow (Hhbw.out.alloc hsz _) hg2
    have ⟨Hho2, Hhg2, HhB2, Hhb2⟩ := hid4 ho2 hg2 hB2 hb2; clear ho2 hg2 hB2 hb2
    go_wp2_with fail
    go_roundw
    case rel =>
     refine ⟨B', d', l2 ++ [48], M / 10, by simp, by go_num, by omega, Hho2.out, ?_, Hhb2.out⟩
     rw [← Hhv.out]; simp
    case measure => simp [intOf]; omega
   ·have hlt : decide (-r < 0) = true := by simp; omega
    have ⟨Hho, Hhv, Hhbw, Hhr, HhMM⟩ := hid5 ho hv hbw hr hMM; clear ho hv hbw hr hMM
    go_wp2_with (at_builtin; refine wp_app_ints _ rfl (.tmp 21) (.tmp 25) _ rfl w.heap.size 5 i0 _ 1 Tryz.underlying161 hi hz0 hz1 hz2 rfl .u8 B d l2 rfl (Hho.out.alloc _) (some ⟨wr.heap.size, 0, none⟩) 1 [48 + r] rfl (ints_new1 _ _ _ _ _ rfl) ?_ ?_ ?_ ?_)
    ·first | omega | (simp; omega)
    ·first | omega | (simp; omega)
    ·first | omega | (simp; omega)
    intro B' d' w2 ho2 hg2 hB2
    have hb2 := (Hho.out.alloc (.cells #[.int .u8 (48 + r)] 5)).grow (Hhbw.out.alloc hsz _) hg2
    have ⟨Hho2, Hhg2, HhB2, Hhb2⟩ := hid4 ho2 hg2 hB2 hb2; clear ho2 hg2 hB2 hb2
    go_wp2_with fail
    go_roundw
    case rel =>
     refine ⟨B', d', l2 ++ [48 + r], M / 10, by simp, by go_num, by omega, Hho2.out, ?_, Hhb2.out⟩
     rw [← Hhv.out]; simp
    case measure => simp [intOf]; omega
theorem decimal_zero (w : World) : Calls Tryz.prog 131 #[.int .i64 0] w fun e w' => e = .returned (.string (txt 0)) ∧ Below w.heap.size w w' := by
 have hb0 : ((0 : Int) == 0) = true := rfl
 have h0 : txt 0 = ⟨#[48]⟩ := by
  have : Lib.itoa 0 = [48] := by rw [Lib.itoa, if_neg (by omega), Lib.decDigits]; rfl
  rw [txt, this]
 rw [h0]
 clear h0
 go_enter Tryz.func131, Tryz.ntmps131
 go_wp2_with fail
 go_ret
 exact ⟨rfl, Below.refl _ _⟩
theorem decimal_any (n : Int) (w : World) (h : -9223372036854775808 ≤ n ∧ n ≤ 9223372036854775807) :
  Calls Tryz.prog 131 #[.int .i64 n] w fun e w' => e = .returned (.string (txt n)) ∧ Below w.heap.size w w' := by
 rcases Int.lt_trichotomy n 0 with h1 | rfl | h1
 ·exact dec_loop_neg n w h1 h.1
 ·exact decimal_zero w
 ·exact dec_loop_pos n w h1 h.2
end Go.Proofs.YtclgncaghiinhaaGreatDoor
