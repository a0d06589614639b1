/- Contracts of package digest: Next, Chain. -/
import Derived.Lib.AppendIntMem
import Derived.Lib.OthersKept
import Derived.Test.YtclgncaghiinhaaGreatDoorU2
set_option linter.unusedSimpArgs false
set_option linter.unusedVariables false
set_option maxRecDepth 100000
namespace Go.Proofs.YtclgncaghiinhaaGreatDoor
open Go.RowKit
/-- the library's table reads as its initialiser lays it -/
def Tab (w : World) : Prop := Lib.TabIs Tryz.prog w "internal/strconv.uint64pow10" .u64 Lib.pow10Tab
theorem Tab.below {w w' : World} (h : Tab w) (hb : Below w.heap.size w w') : Tab w' := Lib.tabBelow_of_tabIs h w' hb
theorem itoa_any (n : Int) (w : World) (h : -9223372036854775808 ≤ n ∧ n ≤ 9223372036854775807) (ht : Tab w) :
  Calls Tryz.prog 116 #[.int .i64 n] w fun e w' => e = .returned (.string (txt n)) ∧ Below w.heap.size w w' :=
 (Tryz.strconv_Itoa n h.1 h.2 w ht).mono fun e w' ⟨he, k, os, hw⟩ => ⟨he, by rw [hw]; exact Lib.below_grow _ w (Nat.le_refl _) k os⟩
theorem blk_grown {w w' : World} {g b : Nat} {o : Obj} (h : w.grownBy w' (some g)) (hb : w.heap[b]? = some o) (hne : b ≠ g) : w'.heap[b]? = some o := by
 rw [h.block b (lt_of_block hb) (by simpa using hne)]; exact hb
theorem blk_below {w w' : World} {b : Nat} {o : Obj} (h : Below w.heap.size w w') (hb : w.heap[b]? = some o) : w'.heap[b]? = some o := by
 rw [h.block b (lt_of_block hb)]; exact hb
theorem blk_alloc {w : World} {b : Nat} {o : Obj} (hb : w.heap[b]? = some o) (x : Obj) : (w.alloc x).heap[b]? = some o := by
 rw [Below.heap_alloc w x b (lt_of_block hb)]; exact hb
/-- one byte more -/
theorem add_one (g : Nat) (x d : Int) (w : World) (hx : 0 ≤ x ∧ x ≤ 255) (hg : w.heap[g]? = some (.cells #[.int .u64 d] 43)) (n : Nat) (hn : w.heap.size = n) :
  Calls Tryz.prog 123 #[.slice (some ⟨n, 0, none⟩) 1 1, .pointer (some ⟨g, 0, none⟩)] (w.alloc (.cells #[.int .u8 x] 5)) fun e w' => e = .returned (.tuple #[]) ∧ (w.alloc (.cells #[.int .u8 x] 5)).grownBy w' (some g) ∧ w'.heap[g]? = some (.cells #[.int .u64 (stepB d x)] 43) :=
 add_any g (some ⟨n, 0, none⟩) 1 [x] d _ (ints_new1 w .u8 x _ n hn) (by simp) (bytes_getD (by simpa using hx)) (blk_alloc hg _)
set_option maxHeartbeats 2000000 in
theorem digNext_any (d : Int) (A : Option Addr) (c : Nat) (l : List Int) (w : World) (hd : 0 ≤ d ∧ d ≤ 18446744073709551615) (hl : IntsAt w A .i64 l) (hn : l.length ≤ 1000000) (hb : Fit l) (ht : Tab w) :
    Calls Tryz.prog 101 #[.int .u64 d, .slice A l.length c] w fun e w' => e = .returned (.int .u64 (nextB d l)) ∧ Below w.heap.size w w' := by
  have hd0 := hd.1
  have hd1 := hd.2
  generalize hN : l.length = N at *
  have fin : nextB d l = sumB 14695981039346656037 (hi8 d ++ wordsB l) := rfl
  have ⟨Hhl, Hhb, HhN, Hht, Hhd, Hfin⟩ := hid6 hl hb hN ht hd fin; clear hl hb hN ht hd fin
  go_enter Tryz.func101, Tryz.ntmps101
  go_wp2_with fail
  refine (run_any _).mono ?_; rintro e w1 ⟨rfl, rfl⟩
  go_wp2_with fail
  go_loopw [7] (fun s wr => ∃ k : Nat, k ≤ 8 ∧ s = .int .i64 (56 - 8 * (k : Int)) ∧ Below w.heap.size w wr ∧ wr.heap[w.heap.size]? = some (.cells #[.int .u64 (sumB 14695981039346656037 ((hi8 d).take k))] 43)) (fun s _ => (intOf s + 8).toNat)
  case atStart => exact ⟨0, by omega, rfl, (Below.refl _ _).alloc (Nat.le_refl _) _, newAt rfl⟩
  case round =>
    obtain ⟨k, hk, rfl, hbw, hg⟩ := hrel
    by_cases hlt : k < 8
    · have hs : sumB 14695981039346656037 ((hi8 d).take (k + 1)) = stepB (sumB 14695981039346656037 ((hi8 d).take k)) (d / 2 ^ (56 - 8 * k) % 256) := by
        rw [sumB_take_succ _ _ _ (by rw [hi8_len]; exact hlt), hi8_get d k hlt]
      have g0 : (0 : Int) ≤ 56 - 8 * (k : Int) := by omega
      have g1 : (56 - 8 * (k : Int)).toNat = 56 - 8 * k := by omega
      generalize sumB 14695981039346656037 ((hi8 d).take k) = D at *
      have ⟨Hhbw, Hhg, Hhs⟩ := hid3 hbw hg hs; clear hbw hg hs
      have hsz := Hhbw.out.size
      have t1 : 8 * (k : Int) ≤ 56 := by omega
      go_wp2_with fail
      refine (add_one w.heap.size _ D wr (by omega) Hhg.out _ rfl).mono ?_
      rintro e w2 ⟨rfl, hg2, hh2⟩
      have hb2 : Below w.heap.size w w2 := (Hhbw.out.alloc hsz _).trans (below_of_grown hg2 (by simp; omega) (Nat.le_refl _))
      have ⟨Hhg2, Hhh2, Hhb2⟩ := hid3 hg2 hh2 hb2; clear hg2 hh2 hb2
      go_wp2_with fail
      go_roundw
      case rel => exact ⟨k + 1, by omega, by congr 1; omega, Hhb2.out, by rw [Hhs.out]; exact Hhh2.out⟩
      case measure => simp [intOf]; omega
    · have hk8 : (hi8 d).take k = hi8 d := List.take_of_length_le (by rw [hi8_len]; omega)
      rw [hk8] at hg
      have t1 : ¬ 8 * (k : Int) ≤ 56 := by omega
      have hfin : ∀ m, sumB 14695981039346656037 (hi8 d ++ wordsB (l.take m)) = sumB (sumB 14695981039346656037 (hi8 d)) (wordsB (l.take m)) := fun m => sumB_append _ _ _
      generalize sumB 14695981039346656037 (hi8 d) = D0 at *
      have hst : wr.heap[w.heap.size]? = some (.cells #[.int .u64 (sumB D0 (wordsB (l.take 0)))] 43) := hg
      have ⟨Hhbw, Hhg, Hhk8, Hhfin, Hhst⟩ := hid5 hbw hg hk8 hfin hst; clear hbw hg hk8 hfin hst
      go_wp2_with fail
      go_loopw [29] (fun i ws => ∃ n : Nat, n ≤ N ∧ i = .int .i64 n ∧ Below w.heap.size w ws ∧ ws.heap[w.heap.size]? = some (.cells #[.int .u64 (sumB D0 (wordsB (l.take n)))] 43)) (fun i _ => N - (intOf i).toNat)
      case atStart => exact ⟨0, by omega, rfl, Hhbw.out, Hhst.out⟩
      case round =>
        obtain ⟨n, hn2, rfl, hbs, hgs⟩ := hrel
        by_cases hln : n < N
        · obtain ⟨b, off, hA, hbl, hc⟩ := (Hhl.out.below hbs) n (by rw [HhN.out]; exact hln)
          have hbd := int_bd Hhb.out n
          have hsn := wordsB_snoc l n (by rw [HhN.out]; exact hln)
          have htb := Hht.out.below hbs
          have hsz := hbs.size
          have i1 : (0 : Int) ≤ (n : Int) := by omega
          have i2 : (n : Int) < (N : Int) := by omega
          have hfi : sumB D0 (wordsB (l.take (n + 1))) = stepB (sumB (sumB D0 (wordsB (l.take n))) (decB (l.getD n 0))) 32 := by rw [hsn, sumB_append, sumB_append]; rfl
          generalize l.getD n 0 = x at *
          generalize sumB D0 (wordsB (l.take n)) = D1 at *
          have hcall := fun W (hW : Tab W) => itoa_any x W hbd hW
          subst hA
          have ⟨Hhbs, Hhgs, Hhbd, Hhsn, Hhtb, Hhcall, Hhfi⟩ := hid7 hbs hgs hbd hsn htb hcall hfi; clear hbs hgs hbd hsn htb hcall hfi
          go_wp2_with fail
          refine (Hhcall.out _ Hhtb.out).mono ?_
          rintro e w2 ⟨rfl, hb2⟩
          have hs2 := hb2.size
          have hbw2 := Hhbs.out.trans (hb2.mono hsz)
          have hg2 := blk_below hb2 Hhgs.out
          have hk0 := World.iter_heap w2 (txt x) 0
          have hb3 : Below w.heap.size w (w2.iter (txt x) 0) := hbw2.alloc (by omega) _
          have hg3 : (w2.iter (txt x) 0).heap[w.heap.size]? = some (.cells #[.int .u64 (sumB D1 ((decB x).take 0))] 43) := blk_alloc hg2 _
          have hne : w.heap.size < w2.heap.size := by have := lt_of_block Hhgs.out; omega
          obtain ⟨it, hit⟩ : ∃ it, w2.heap.size = it := ⟨_, rfl⟩
          rw [hit] at hk0 hne
          obtain ⟨wo, hwo⟩ : ∃ wo, w2.iter (txt x) 0 = wo := ⟨_, rfl⟩
          rw [hwo] at hk0 hb3 hg3
          have ⟨Hhb2, Hhbw2, Hhg2, Hhk0, Hhb3, Hhg3⟩ := hid6 hb2 hbw2 hg2 hk0 hb3 hg3; clear hb2 hbw2 hg2 hk0 hb3 hg3
          go_wp2_with fail
          have ⟨Hhit, Hhwo⟩ := hid2 hit hwo; clear hit hwo
          go_loopw [11] (fun _ wt => ∃ p : Nat, p ≤ (txt x).size ∧ wt.heap[it]? = some (.stringIter (txt x) p) ∧ wt.heap[w.heap.size]? = some (.cells #[.int .u64 (sumB D1 ((decB x).take p))] 43) ∧ Below w.heap.size w wt) (fun _ wt => (txt x).size - wt.iterPos it)
          case atStart => exact ⟨0, by omega, Hhk0.out, Hhg3.out, Hhb3.out⟩
          case round =>
            obtain ⟨p, hp0, hk, hgt, hbt⟩ := hrel
            have hst := hbt.size
            by_cases hp : p < (txt x).size
            · have hasc := txt_ascii x p hp
              have hdg := decB_get x p hp
              have hnext : ∀ ty, (Instr.next (.pointer (some ⟨it, 0, none⟩)) true ty).run Tryz.prog wr = _ := fun ty => Lib.run_next_ascii_at wr it (txt x) p ty hk hp hasc
              have hss := sumB_take_succ D1 (decB x) p (by rw [← txt_size]; exact hp)
              rw [hdg] at hss
              generalize ((txt x)[p]'hp).toNat = y at *
              have hk1 := Lib.iterAt_heap wr it (txt x) p (p + 1) hk
              have hb1 : Below w.heap.size w (wr.iterAt it (txt x) (p + 1)) := Lib.below_iterAt hbt (by omega) (txt x) (p + 1)
              have hg1 : (wr.iterAt it (txt x) (p + 1)).heap[w.heap.size]? = _ := (Lib.iterAt_other wr it w.heap.size (txt x) (p + 1) (by omega)).trans hgt
              have hmu : wr.iterPos it = p := by simp [World.iterPos, hk]
              generalize wr.iterAt it (txt x) (p + 1) = W1 at hnext hk1 hb1 hg1
              generalize sumB D1 ((decB x).take p) = D2 at *
              have hs1 := hb1.size
              have t3 : (y : Int) % 256 = y := by omega
              have ⟨Hhk, Hhgt, Hhbt, Hhdg, Hhss, Hhk1, Hhb1, Hhg1⟩ := hid8 hk hgt hbt hdg hss hk1 hb1 hg1; clear hk hgt hbt hdg hss hk1 hb1 hg1; have Hhmu := Lib.hid hmu; clear hmu
              go_wp2_with fail
              refine (add_one w.heap.size (y : Int) D2 W1 (by omega) Hhg1.out _ rfl).mono ?_
              rintro e w3 ⟨rfl, hg4, hh4⟩
              have hb4 : Below w.heap.size w w3 := (Hhb1.out.alloc hs1 _).trans (below_of_grown hg4 (by simp; omega) (Nat.le_refl _))
              have hk4 := blk_grown hg4 (blk_alloc Hhk1.out _) (by omega)
              have ⟨Hhg4, Hhh4, Hhb4, Hhk4⟩ := hid4 hg4 hh4 hb4 hk4; clear hg4 hh4 hb4 hk4
              go_wp2_with fail
              go_roundw
              case rel => exact ⟨p + 1, by omega, Hhk4.out, by rw [Hhss.out]; exact Hhh4.out, Hhb4.out⟩
              case measure =>
                have hmu2 : w3.iterPos it = p + 1 := by have := Hhk4.out; simp [World.iterPos, this]
                rw [Hhmu.out, hmu2]; omega
            · have hnext : ∀ ty, (Instr.next (.pointer (some ⟨it, 0, none⟩)) true ty).run Tryz.prog wr = _ := fun ty => Lib.run_next_end_at wr it (txt x) p ty hk hp
              have hall : (decB x).take p = decB x := List.take_of_length_le (by rw [← txt_size]; omega)
              rw [hall] at hgt
              generalize sumB D1 (decB x) = D2 at *
              have ⟨Hhk, Hhgt, Hhbt, Hhall⟩ := hid4 hk hgt hbt hall; clear hk hgt hbt hall
              go_wp2_with fail
              refine (add_one w.heap.size 32 D2 wr (by omega) Hhgt.out _ rfl).mono ?_
              rintro e w3 ⟨rfl, hg4, hh4⟩
              have hb4 : Below w.heap.size w w3 := (Hhbt.out.alloc hst _).trans (below_of_grown hg4 (by simp; omega) (Nat.le_refl _))
              have ⟨Hhg4, Hhh4, Hhb4⟩ := hid3 hg4 hh4 hb4; clear hg4 hh4 hb4
              go_wp2_with fail
              go_roundw
              case rel => exact ⟨n + 1, by omega, by go_num, Hhb4.out, by rw [Hhfi.out]; exact Hhh4.out⟩
              case measure => simp [intOf]; omega
        · have hall : l.take n = l := List.take_of_length_le (by rw [HhN.out]; omega)
          rw [hall] at hgs
          have hcl := cell_of_one hgs
          have i2 : ¬ (n : Int) < (N : Int) := by omega
          have hff := Hhfin.out n
          rw [hall] at hff
          generalize sumB D0 (wordsB l) = D2 at *
          have ⟨Hhgs, Hhbs, Hhall, Hhff⟩ := hid4 hgs hbs hall hff; clear hgs hbs hall hff
          go_wp2_with fail
          refine (tell_any _ _ _ hcl).mono ?_
          rintro e w3 ⟨rfl, rfl⟩
          go_wp2_with fail
          go_ret
          exact ⟨ret_int (by rw [Hfin.out, Hhff.out]), Hhbs.out⟩
end Go.Proofs.YtclgncaghiinhaaGreatDoor
