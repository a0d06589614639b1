/- Opening arguments: triples of unsigned integers. -/
import Derived.Lib.SlBytesConst
import Derived.ProofKit
import Derived.OpenShut
import Derived.ChangeOld
import Derived.Deep.Matrix
import Derived.DataShut
import Derived.SizedLaws
import Derived.Maps.OwnSet
import Derived.Maps.OwnOps
import Derived.Deep.Slices
import Derived.Deep.CutRange
import Derived.DeepKeys
import Derived.WalkKit
import Derived.WalkSpells
import Derived.WalkLawsBesides
import Derived.Deep.QuietTactic
import Derived.BigQuiet
import Derived.Lib.Hide
import Derived.Below
import Derived.IntWalk
import Derived.Laws.Rows
import Derived.Outline
import Derived.Deep.RegionHeld3
import Derived.Deep.RegionWith
import Derived.StillTailTactics
import Derived.BigGuardPart
import Derived.Deep.Cut
import Derived.Lib.SmallJoins
import Derived.Shelf.Spec.SlicesInsert
import Derived.Shelf.Spec.SlicesInsertGrow
import Derived.RangeFuncNested
import Derived.RangeFuncWrites
import Derived.OwnWalkIn
import Derived.Deep.RegionHeld
import Derived.RangeFuncBound
import Derived.RangeFuncCalls
import Derived.RangeFuncLeaves
import Derived.Shelf.Abstract
import Derived.Shelf.RegionOpen
import Derived.TacticsInMore
import Derived.LoopNIn
import Derived.LoopIn
import Derived.BigGuardPartIn
import Derived.Test.YtclgncaghiinhaaGreatDoorM1
import Derived.Test.YtclgncaghiinhaaGreatDoorM2
import Derived.Test.YtclgncaghiinhaaGreatDoorM3
import Derived.Test.YtclgncaghiinhaaGreatDoorM4
import Derived.Test.YtclgncaghiinhaaGreatDoorM5
import Derived.Test.YtclgncaghiinhaaGreatDoorM6
import Derived.Test.YtclgncaghiinhaaGreatDoorM7
import Derived.Test.YtclgncaghiinhaaGreatDoorM8
import Derived.Test.YtclgncaghiinhaaGreatDoorM9
import Derived.Test.YtclgncaghiinhaaGreatDoorM10
import Derived.Test.YtclgncaghiinhaaGreatDoorM11
import Derived.Test.YtclgncaghiinhaaGreatDoorM12
import Derived.Test.YtclgncaghiinhaaGreatDoorM13
import Derived.Test.YtclgncaghiinhaaGreatDoorM14
import Derived.Test.YtclgncaghiinhaaGreatDoorM15
import Derived.Test.YtclgncaghiinhaaGreatDoorM16
import Derived.Test.YtclgncaghiinhaaGreatDoorM17
import Derived.Test.YtclgncaghiinhaaGreatDoorM18
import Derived.Test.YtclgncaghiinhaaGreatDoorM19
import Derived.Test.YtclgncaghiinhaaGreatDoorM20
import Derived.Test.YtclgncaghiinhaaGreatDoorM21
import Derived.Test.YtclgncaghiinhaaGreatDoorM22
import Derived.Test.YtclgncaghiinhaaGreatDoorM23
import Derived.Test.YtclgncaghiinhaaGreatDoorM24
import Derived.Test.YtclgncaghiinhaaGreatDoorM25
import Derived.Test.YtclgncaghiinhaaGreatDoorM26
import Derived.Test.YtclgncaghiinhaaGreatDoorM27
import Derived.Test.YtclgncaghiinhaaGreatDoorM28
import Derived.Test.YtclgncaghiinhaaGreatDoorM29
import Derived.Test.YtclgncaghiinhaaGreatDoorM30
import Derived.Test.YtclgncaghiinhaaGreatDoorM31
import Derived.Test.YtclgncaghiinhaaGreatDoorM32
import Derived.Test.YtclgncaghiinhaaGreatDoorM33
import Derived.Test.YtclgncaghiinhaaGreatDoorM34
import Derived.Test.YtclgncaghiinhaaGreatDoorM35
import Derived.Test.YtclgncaghiinhaaGreatDoorM36
import Derived.Test.YtclgncaghiinhaaGreatDoorM37
import Derived.Test.YtclgncaghiinhaaGreatDoorM38
import Derived.Test.YtclgncaghiinhaaGreatDoorM39
import Derived.Test.YtclgncaghiinhaaGreatDoorM40
import Derived.Test.YtclgncaghiinhaaGreatDoorM41
import Derived.Test.YtclgncaghiinhaaGreatDoorM42
import Derived.Test.YtclgncaghiinhaaGreatDoorM43
import Derived.Test.YtclgncaghiinhaaGreatDoorM44
import Derived.Test.YtclgncaghiinhaaGreatDoorM45
import Derived.Test.YtclgncaghiinhaaGreatDoorM46
import Derived.Test.YtclgncaghiinhaaGreatDoorR1
set_option linter.unusedSimpArgs false
set_option linter.unusedVariables false
set_option maxRecDepth 100000
namespace Go.Proofs.YtclgncaghiinhaaGreatDoor
open Go.RowKit
theorem wp_app_txt (w : World) {ops : Array Oper} {rest : List Oper} {o : Oper} {a : Act} {Q : Exit → Act → World → Prop} (hgd : o.guard = none) (s x : Operand)
    (ho : o.op = .call { callee := .builtin .append, args := #[s, x], argTypes := #[161, 9] })
    (base : Nat) (A : Option Addr) (c n : Nat) (l : List Int) (hln : l.length = n) (hs : a.eval s = .slice A n c) (hown : OwnInts w base 5 .u8 A c l) (v : Int) (hx : a.eval x = .string (txt v))
    (h63 : n + (decB v).length ≤ 100000000) (hbase : base ≤ w.heap.size)
    (h : ∀ A' c' w', OwnInts w' base 5 .u8 A' c' (l ++ decB v) → w.grownBy w' (blockOf A) → wpList Tryz.prog ops Q rest (a.put o.dst (.slice A' (n + (decB v).length) c')) w') : wpList Tryz.prog ops Q (o :: rest) a w := by
  obtain ⟨i0, hi, hz0, hz1, hz2⟩ := info_parts infoU8
  subst hln
  refine Lib.wpList_append_own_string w hgd s x _ _ ho base 5 i0 Tryz.underlying161 Tryz.underlying9 hi hz0 hz1 hz2 (.slice A l.length c) l.length (l.map (Value.int .u8)) hs hown (txt v) hx (by rw [txt_size]; unfold maxLen; omega) (by rw [txt_size]; omega) hbase ?_
  intro v' w' h1 h2 _
  have e : Lib.strCells (txt v) = (decB v).map (Value.int .u8) := by simp [Lib.strCells, decB, txt]
  rw [e, ← List.map_append, txt_size, ← List.length_append] at h1
  have hv : ∃ A' c', v' = .slice A' (l ++ decB v).length c' := by
    rcases h1.2 with ⟨hv, hn⟩ | ⟨g, cap, cur, hv, _⟩
    · exact ⟨none, 0, by rw [hv, hn]⟩
    · exact ⟨_, cap, hv⟩
  obtain ⟨A', c', rfl⟩ := hv
  rw [ownBlock_slice] at h2
  rw [List.length_append]
  refine h A' c' w' ?_ h2
  exact h1
theorem wordsB_len (l : List Int) (h : Fit l) : (wordsB l).length ≤ 22 * l.length := by
  induction l with
  | nil => simp [wordsB]
  | cons x r ih =>
    have h1 := decB_len x (h x (by simp))
    have h2 := ih fun y hy => h y (by simp [hy])
    simp [wordsB] at h2 ⊢; omega
theorem wordsB_bytes (l : List Int) : ∀ x ∈ wordsB l, 0 ≤ x ∧ x ≤ 255 := fun x hx => by
  simp only [wordsB, List.mem_flatMap, List.mem_append] at hx
  obtain ⟨n, _, h | h⟩ := hx
  · have := decB_mem n x h; omega
  · have : x = 32 := by simpa using h
    omega
theorem textB_bytes (d : Int) (l : List Int) : ∀ x ∈ textB d l, 0 ≤ x ∧ x ≤ 255 := fun x hx => by
  rcases List.mem_append.1 hx with h | h
  · exact hi8_bytes d x h
  · exact wordsB_bytes l x h
theorem textB_len (d : Int) (l : List Int) (h : Fit l) : (textB d l).length ≤ 8 + 22 * l.length := by
  have := wordsB_len l h
  simp [textB, hi8_len]; omega
set_option maxHeartbeats 2000000 in
theorem refText_any (d : Int) (A : Option Addr) (c : Nat) (l : List Int) (w : World) (hd : 0 ≤ d ∧ d ≤ 18446744073709551615) (hl : IntsAt w A .i64 l) (hn : l.length ≤ 1000000) (hb : Fit l) :
    Calls Tryz.prog 122 #[.int .u64 d, .slice A l.length c] w fun e w' => ∃ A' c', e = .returned (.slice A' (textB d l).length c') ∧ OwnInts w' w.heap.size 5 .u8 A' c' (textB d l) ∧ Below w.heap.size w w' := by
  obtain ⟨i0, hi, hz0, hz1, hz2⟩ := info_parts infoU8
  have hd0 := hd.1
  have hd1 := hd.2
  have hwl : ∀ k, (wordsB (l.take k)).length ≤ 22 * l.length := fun k => by
    have h1 := wordsB_len (l.take k) fun x hx => hb x (List.mem_of_mem_take hx)
    have h2 : (l.take k).length ≤ l.length := List.length_take_le' _ _
    omega
  generalize hN : l.length = N at *
  have ⟨H_hl, H_hb, H_hN, H_hd, H_hwl⟩ := hid5 hl hb hN hd hwl; clear hl hb hN hd hwl
  go_enter Tryz.func122, Tryz.ntmps122
  go_wp2_with fail
  go_loopw [5, 6] (fun b i wr => ∃ (k : Nat) (B : Option Addr) (e : Nat), k ≤ 8 ∧ i = .int .i64 k ∧ b = .slice B k e ∧ OwnInts wr w.heap.size 5 .u8 B e ((hi8 d).take k) ∧ Below w.heap.size w wr) (fun _ i _ => 8 - (intOf i).toNat)
  case atStart => exact ⟨0, none, 0, by omega, rfl, rfl, OwnInts.nil _ _ _ _, Below.refl _ _⟩
  case round =>
    obtain ⟨k, B, e, hk, rfl, rfl, ho, hbw⟩ := hrel
    have hsz := hbw.size
    by_cases hlt : k < 8
    · have htl : ((hi8 d).take k).length = k := by simp [hi8_len]; omega
      have hsn := take_snocD (hi8 d) k 0 (by rw [hi8_len]; exact hlt)
      rw [hi8_get d k hlt] at hsn
      have g0 : (0 : Int) ≤ 56 - 8 * (k : Int) := by omega
      have g1 : (56 - 8 * (k : Int)).toNat = 56 - 8 * k := by omega
      have g2 : 8 * (k : Int) ≤ 56 := by omega
      have ⟨H_ho, H_hbw, H_htl, H_hsn⟩ := hid4 ho hbw htl hsn; clear ho hbw htl hsn
      go_wp2_with (at_builtin; refine wp_app_at _ rfl (.tmp 12) (.tmp 19) _ rfl w.heap.size 5 i0 _ 1 Tryz.underlying161 hi hz0 hz1 hz2 rfl .u8 B e k _ H_htl.out rfl (H_ho.out.alloc _) (some ⟨wr.heap.size, 0, none⟩) 1 1 [d / 2 ^ (56 - 8 * k) % 256] rfl rfl (ints_new1 _ _ _ _ _ rfl) ?_ ?_ ?_ ?_)
      · omega
      · omega
      · simp; omega
      intro B' e' w2 ho2 hg2 hB2
      have hb2 := (H_ho.out.alloc (.cells #[.int .u8 (d / 2 ^ (56 - 8 * k) % 256)] 5)).grow (H_hbw.out.alloc hsz _) hg2
      have ⟨H_ho2, H_hg2, H_hB2, H_hb2⟩ := hid4 ho2 hg2 hB2 hb2; clear ho2 hg2 hB2 hb2
      go_wp2_with fail
      go_roundw
      case rel => exact ⟨k + 1, B', e', by omega, by go_num, rfl, by rw [H_hsn.out]; exact H_ho2.out, H_hb2.out⟩
      case measure => simp [intOf]; omega
    · have h8 : k = 8 := by omega
      have hall : (hi8 d).take k = hi8 d := List.take_of_length_le (by rw [hi8_len]; omega)
      rw [hall] at ho
      have hst : OwnInts wr w.heap.size 5 .u8 B e (hi8 d ++ wordsB (l.take 0)) := by simpa [wordsB] using ho
      have hH := hi8_len d
      have t1 : ¬ (k : Int) < 8 := by omega
      have hk8 : k = (hi8 d ++ wordsB (l.take 0)).length := by simp [wordsB, hH]; exact h8
      have ⟨H_ho, H_hbw, H_hall, H_hst, H_hH, H_h8, H_hk8⟩ := hid7 ho hbw hall hst hH h8 hk8; clear ho hbw hall hst hH h8 hk8
      go_wp2_with fail
      go_loopw [5, 7] (fun b i ws => ∃ (n : Nat) (B : Option Addr) (e : Nat), n ≤ N ∧ i = .int .i64 n ∧ b = .slice B (hi8 d ++ wordsB (l.take n)).length e ∧ OwnInts ws w.heap.size 5 .u8 B e (hi8 d ++ wordsB (l.take n)) ∧ Below w.heap.size w ws) (fun _ i _ => N - (intOf i).toNat)
      case atStart => exact ⟨0, B, e, by omega, rfl, by rw [← H_hk8.out], H_hst.out, H_hbw.out⟩
      case round =>
        obtain ⟨n, B2, e2, hn2, rfl, rfl, ho2, hb2⟩ := hrel
        have hs2 := hb2.size
        by_cases hln : n < N
        · obtain ⟨b, off, hA, hbl, hc⟩ := (H_hl.out.below hb2) n (by rw [H_hN.out]; exact hln)
          have hbd := int_bd H_hb.out n
          have hsn := wordsB_snoc l n (by rw [H_hN.out]; exact hln)
          have hwn := H_hwl.out n
          have i1 : (0 : Int) ≤ (n : Int) := by omega
          have i2 : (n : Int) < (N : Int) := by omega
          have hX1 : (hi8 d ++ wordsB (l.take n)).length ≤ 8 + 22 * N := by have := H_hH.out; simp; omega
          have hXs : hi8 d ++ wordsB (l.take (n + 1)) = hi8 d ++ wordsB (l.take n) ++ decB (l.getD n 0) ++ [32] := by rw [hsn]; simp
          generalize hX : hi8 d ++ wordsB (l.take n) = X at *
          generalize l.getD n 0 = x at *
          have hdl := decB_len x hbd
          have hcall := decimal_any x wr hbd
          subst hA
          have ⟨H_ho2, H_hb2, H_hbd, H_hsn, H_hwn, H_hX, H_hXs, H_hcall⟩ := hid8 ho2 hb2 hbd hsn hwn hX hXs hcall; clear ho2 hb2 hbd hsn hwn hX hXs hcall
          go_wp2_with fail
          refine H_hcall.out.mono ?_
          rintro e w3 ⟨rfl, hb3⟩
          have hs3 := hb3.size
          have ho3 := H_ho2.out.below hb3
          have hbb3 := H_hb2.out.trans (hb3.mono hs2)
          generalize hDL : (decB x).length = DL at *
          have ⟨H_hb3, H_ho3, H_hbb3, H_hDL⟩ := hid4 hb3 ho3 hbb3 hDL; clear hb3 ho3 hbb3 hDL
          go_wp2_with (at_builtin; refine wp_app_txt _ rfl (.tmp 27) (.tmp 32) rfl w.heap.size B2 e2 X.length X rfl rfl H_ho3.out x rfl ?_ ?_ ?_)
          · rw [H_hDL.out]; omega
          · omega
          rw [H_hDL.out]
          intro B4 e4 w4 ho4 hg4
          have hb4 := H_ho3.out.grow H_hbb3.out hg4
          have hs4 := hb4.size
          have hl4 : (X ++ decB x).length = X.length + DL := by rw [List.length_append, H_hDL.out]
          have ⟨H_ho4, H_hg4, H_hb4, H_hl4⟩ := hid4 ho4 hg4 hb4 hl4; clear ho4 hg4 hb4 hl4
          go_wp2_with (at_builtin; refine wp_app_at _ rfl (.tmp 34) (.tmp 35) _ rfl w.heap.size 5 i0 _ 1 Tryz.underlying161 hi hz0 hz1 hz2 rfl .u8 B4 e4 (X.length + DL) (X ++ decB x) H_hl4.out rfl (H_ho4.out.alloc _) (some ⟨w4.heap.size, 0, none⟩) 1 1 [32] rfl rfl (ints_new1 _ _ _ _ _ rfl) ?_ ?_ ?_ ?_)
          · omega
          · omega
          · simp; omega
          intro B5 e5 w5 ho5 hg5 hB5
          have hb5 := (H_ho4.out.alloc (.cells #[.int .u8 32] 5)).grow (H_hb4.out.alloc hs4 _) hg5
          have hl5 : X.length + DL + 1 = (X ++ decB x ++ [32]).length := by rw [List.length_append, H_hl4.out]; rfl
          have ⟨H_ho5, H_hg5, H_hB5, H_hb5, H_hl5⟩ := hid5 ho5 hg5 hB5 hb5 hl5; clear ho5 hg5 hB5 hb5 hl5
          go_wp2_with fail
          go_roundw
          case rel => exact ⟨n + 1, B5, e5, by omega, by go_num, by rw [H_hXs.out, H_hl5.out], by rw [H_hXs.out, List.append_assoc]; exact H_ho5.out, H_hb5.out⟩
          case measure => simp [intOf]; omega
        · have hal2 : l.take n = l := List.take_of_length_le (by rw [H_hN.out]; omega)
          rw [hal2] at ho2 ⊢
          have i2 : ¬ (n : Int) < (N : Int) := by omega
          change OwnInts wr w.heap.size 5 .u8 B2 e2 (textB d l) at ho2
          have ⟨H_ho2, H_hb2, H_hal2⟩ := hid3 ho2 hb2 hal2; clear ho2 hb2 hal2
          go_wp2_with fail
          go_ret
          exact ⟨B2, e2, ret_slice (by simp [textB]), H_ho2.out, H_hb2.out⟩
theorem refNext_any (d : Int) (A : Option Addr) (c : Nat) (l : List Int) (w : World) (hd : 0 ≤ d ∧ d ≤ 18446744073709551615) (hl : IntsAt w A .i64 l) (hn : l.length ≤ 1000000) (hb : Fit l) :
    Calls Tryz.prog 112 #[.int .u64 d, .slice A l.length c] w fun e w' => e = .returned (.int .u64 (nextB d l)) ∧ Below w.heap.size w w' := by
  have hc := refText_any d A c l w hd hl hn hb
  have htl := textB_len d l hb
  have htb := bytes_getD (textB_bytes d l)
  have fin : nextB d l = sumB 14695981039346656037 (textB d l) := rfl
  generalize hT : textB d l = T at *
  have ⟨H_hl, H_hb, H_hd, H_hc, H_htb, H_hT, H_fin⟩ := hid7 hl hb hd hc htb hT fin; clear hl hb hd hc htb hT fin
  go_enter Tryz.func112, Tryz.ntmps112
  go_wp2_with fail
  refine H_hc.out.mono ?_
  rintro e w1 ⟨B, b, rfl, ho, hb1⟩
  have hs := refSum_any B b T w1 ho.ints (by omega) H_htb.out
  have ⟨H_ho, H_hb1, H_hs⟩ := hid3 ho hb1 hs; clear ho hb1 hs
  go_wp2_with fail
  refine H_hs.out.mono ?_
  rintro e w2 ⟨rfl, rfl⟩
  go_wp2_with fail
  go_ret
  exact ⟨ret_int (by rw [H_fin.out]), H_hb1.out⟩
theorem refSum_val (A : Option Addr) (c n : Nat) (l : List Int) (hln : l.length = n) (v : Int) (hv : sumB 14695981039346656037 l = v) (w : World) (hl : IntsAt w A .u8 l) (hn : n ≤ 100000000) (hb : ∀ x ∈ l, 0 ≤ x ∧ x ≤ 255) :
    Calls Tryz.prog 114 #[.slice A n c] w fun e w' => e = .returned (.int .u64 v) ∧ w = w' := by
  subst hln hv; exact refSum_any A c l w hl (by omega) (bytes_getD hb)
theorem refNext_val (d : Int) (A : Option Addr) (c n : Nat) (l : List Int) (hln : l.length = n) (v : Int) (hv : nextB d l = v) (w : World) (hd : 0 ≤ d ∧ d ≤ 18446744073709551615) (hl : IntsAt w A .i64 l) (hn : n ≤ 1000000) (hb : Fit l) :
    Calls Tryz.prog 112 #[.int .u64 d, .slice A n c] w fun e w' => e = .returned (.int .u64 v) ∧ Below w.heap.size w w' := by
  subst hln hv; exact refNext_any d A c l w hd hl hn hb
theorem Crd.cells_one (c : Crd) : ∀ u ∈ c.cells, u.oneCell' = true := by
  intro u hu
  simp only [Crd.cells, List.mem_cons, List.not_mem_nil, or_false] at hu
  rcases hu with h | h | h | h | h | h | h | h | h <;> (subst h; rfl)
theorem cvB_no {c : Crd} : cvB c = false ↔ ¬ (baseP c ∧ kindP c) := by simp [cvB]
/-- whether two cards are the same -/
def ceqB (a b : Crd) : Bool := decide (a.i = b.i ∧ a.k = b.k ∧ a.d = b.d ∧ a.n = b.n ∧ a.f = b.f ∧ a.u = b.u ∧ a.l = b.l ∧ a.e = b.e ∧ a.s = b.s)
theorem nat_beq (a b : Nat) : ((a : Int) == (b : Int)) = (a == b) := by rw [Bool.eq_iff_iff, beq_iff_eq, beq_iff_eq]; omega
section
open Go.RowKit Go.Maps
theorem infoCard : (Tryz.prog.info? 28).map (fun i => (i.zero, i.size, i.bytes)) = some (some (.agg Crd.zero.cells.toArray), 9, 72) := by kernel_rfl
/-- a row of the call's own of cards -/
def OwnC (w : World) (base : Nat) (A : Option Addr) (c : Nat) (l : List Crd) : Prop := OwnRows 28 9 Crd.cells w base A c l
theorem OwnC.cards {w : World} {base : Nat} {A : Option Addr} {c : Nat} {l : List Crd} (h : OwnC w base A c l) (hf : ∀ c ∈ l, CFit c) : Cards w A l := OwnRows.rows h Crd.cells_len fun z hz => ⟨rfl, hf z hz⟩
end
theorem cast_mod (n b m : Nat) : (n : Int) * (b : Int) % (m : Int) = ((n * b % m : Nat) : Int) := by rw [Int.natCast_emod, Int.natCast_mul]
theorem mul_le62 {n b m : Nat} (hm : m ≤ 2147483648) (hn : n < m) (hb : b < m) : 0 ≤ (n : Int) * (b : Int) ∧ (n : Int) * (b : Int) ≤ 4611686018427387904 := by
  have h : n * b ≤ 2147483648 * 2147483648 := Nat.mul_le_mul (by omega) (by omega)
  have : ((n * b : Nat) : Int) ≤ 4611686018427387904 := by omega
  rw [Int.natCast_mul] at this
  exact ⟨Int.mul_nonneg (by omega) (by omega), this⟩
set_option maxHeartbeats 2000000 in
theorem rpower_any (a x m : Nat) (w : World) (hm1 : 1 < m) (hm : m ≤ 2147483648) (ha : a < m) (hx : x ≤ 4611686018427387904) :
    Calls Tryz.prog 76 #[.int .i64 a, .int .i64 x, .int .i64 m] w fun e w' => e = .returned (.int .i64 (pw a x m : Nat)) ∧ w = w' := by
  have hst : 1 * a ^ x % m = pw a x m := by rw [Nat.one_mul]; rfl
  generalize hR : pw a x m = R at *
  have hmi : (0 : Int) < (m : Int) := by omega
  have hmz : ((m : Int) == 0) = false := by rw [beq_eq_false_iff_ne]; omega
  have ⟨H_hst, H_hR, H_ha⟩ := hid3 hst hR ha; clear hst hR ha
  go_enter Tryz.func76, Tryz.ntmps76
  go_wp2_with fail
  go_loop [0, 1, 7] (fun a x o => ∃ (X A O : Nat), a = .int .i64 A ∧ x = .int .i64 X ∧ o = .int .i64 O ∧ X ≤ 4611686018427387904 ∧ A < m ∧ O < m ∧ O * A ^ X % m = R) (fun _ x _ => (intOf x).toNat)
  case atStart => exact ⟨x, a, 1, rfl, rfl, rfl, hx, H_ha.out, hm1, H_hst.out⟩
  case round =>
    obtain ⟨X, A, O, rfl, rfl, rfl, hX, hA, hO, hinv⟩ := hrel
    by_cases h0 : X = 0
    · have hR2 : O = R := by rw [h0, Nat.pow_zero, Nat.mul_one, Nat.mod_eq_of_lt hO] at hinv; exact hinv
      have t1 : ¬ (0 : Int) < (X : Int) := by omega
      have ⟨H_hinv, H_h0, H_hR2, H_hA, H_hO⟩ := hid5 hinv h0 hR2 hA hO; clear hinv h0 hR2 hA hO
      go_wp2_with fail
      go_ret
      exact ⟨ret_int (by rw [H_hR2.out]), rfl⟩
    · have t1 : (0 : Int) < (X : Int) := by omega
      have hrd := pow_round m A X O
      rw [hinv] at hrd
      have hA2 : A * A % m < m := Nat.mod_lt _ (by omega)
      have hO2 : O * A % m < m := Nat.mod_lt _ (by omega)
      have m1 := mul_le62 hm hA hA
      have m2 := mul_le62 hm hO hA
      have m3 := m1.1; have m4 := m1.2; have m5 := m2.1; have m6 := m2.2
      have e1 := cast_mod A A m
      have e2 := cast_mod O A m
      by_cases hodd : X % 2 = 1
      · have t2 : ((X : Int) % 2 == 1) = true := by rw [beq_iff_eq]; omega
        rw [if_pos hodd] at hrd
        have ⟨H_hinv, H_h0, H_hrd, H_hA2, H_hO2, H_hA, H_hO, H_hodd⟩ := hid8 hinv h0 hrd hA2 hO2 hA hO hodd; clear hinv h0 hrd hA2 hO2 hA hO hodd; have ⟨H_m1, H_m2⟩ := hid2 m1 m2; clear m1 m2
        go_wp2_with fail
        go_round
        case rel => exact ⟨X / 2, A * A % m, O * A % m, rfl, by go_num, rfl, by omega, H_hA2.out, H_hO2.out, H_hrd.out⟩
        case measure => simp [intOf]; omega
      · have t2 : ((X : Int) % 2 == 1) = false := by rw [beq_eq_false_iff_ne]; omega
        rw [if_neg hodd] at hrd
        have ⟨H_hinv, H_h0, H_hrd, H_hA2, H_hO2, H_hA, H_hO, H_hodd⟩ := hid8 hinv h0 hrd hA2 hO2 hA hO hodd; clear hinv h0 hrd hA2 hO2 hA hO hodd; have ⟨H_m1, H_m2⟩ := hid2 m1 m2; clear m1 m2
        go_wp2_with fail
        go_round
        case rel => exact ⟨X / 2, A * A % m, O, rfl, by go_num, rfl, by omega, H_hA2.out, H_hO.out, H_hrd.out⟩
        case measure => simp [intOf]; omega
theorem rExponent_any (n : Int) (w : World) : Calls Tryz.prog 51 #[.int .i64 n] w fun e w' => e = .returned (.bool (wthB n 0)) ∧ w = w' := by
  by_cases h1 : 0 ≤ n
  · by_cases h2 : n < 1073741789
    · have e : wthB n 0 = true := wthB_iff.2 ⟨h1, h2⟩
      rw [e]; clear e
      go_enter Tryz.func51, Tryz.ntmps51
      go_wp2_with fail
      go_ret
      exact ⟨rfl, rfl⟩
    · have e : wthB n 0 = false := by simp [wthB, h2]
      have h2' : decide (n < 1073741789) = false := by simpa using h2
      rw [e]; clear e
      go_enter Tryz.func51, Tryz.ntmps51
      go_wp2_with fail
      go_ret
      exact ⟨rfl, rfl⟩
  · have e : wthB n 0 = false := by simp [wthB, h1]
    have h1' : decide (0 ≤ n) = false := by simpa using h1
    rw [e]; clear e
    go_enter Tryz.func51, Tryz.ntmps51
    go_wp2_with fail
    go_ret
    exact ⟨rfl, rfl⟩
theorem rmember_any (a : Int) (w : World) : Calls Tryz.prog 40 #[.int .i64 a] w fun e w' => e = .returned (.bool (memZ a)) ∧ w = w' := by
  by_cases h1 : 1 ≤ a
  · by_cases h2 : a < 2147483579
    · obtain ⟨n, rfl⟩ := Int.eq_ofNat_of_zero_le (show 0 ≤ a by omega)
      have q := rpower_any n 1073741789 2147483579 w (by omega) (by omega) (by omega) (by omega)
      have e : memZ (n : Int) = ((pw n QQ PP : Nat) == 1) := by simp [memZ, h1, h2]
      have e2 : (((pw n QQ PP : Nat) : Int) == 1) = ((pw n QQ PP : Nat) == 1) := by rw [Bool.eq_iff_iff, beq_iff_eq, beq_iff_eq]; omega
      rw [e]
      change Calls _ _ #[.int .i64 n, .int .i64 ((1073741789 : Nat) : Int), .int .i64 ((2147483579 : Nat) : Int)] w (fun e w' => e = .returned (.int .i64 (pw n QQ PP : Nat)) ∧ _) at q
      generalize ((pw n QQ PP : Nat) == 1) = Z at *
      generalize ((pw n QQ PP : Nat) : Int) = Y at *
      have ⟨H_q, H_e⟩ := hid2 q e; clear q e
      go_enter Tryz.func40, Tryz.ntmps40
      go_wp2_with fail
      refine H_q.out.mono ?_
      rintro e w_ ⟨rfl, rfl⟩
      go_wp2_with fail
      go_ret
      exact ⟨rfl, rfl⟩
    · have e : memZ a = false := by simp [memZ, h2]
      have h2' : decide (a < 2147483579) = false := by simpa using h2
      rw [e]; clear e
      go_enter Tryz.func40, Tryz.ntmps40
      go_wp2_with fail
      go_ret
      exact ⟨rfl, rfl⟩
  · have e : memZ a = false := by simp [memZ, h1]
    have h1' : decide (1 ≤ a) = false := by simpa using h1
    rw [e]; clear e
    go_enter Tryz.func40, Tryz.ntmps40
    go_wp2_with fail
    go_ret
    exact ⟨rfl, rfl⟩
theorem rpowP (a x : Nat) (w : World) (ha : a < PP) (hx : x ≤ 4611686018427387904) :
    Calls Tryz.prog 76 #[.int .i64 a, .int .i64 x, .int .i64 2147483579] w fun e w' => e = .returned (.int .i64 (pw a x PP : Nat)) ∧ w = w' := rpower_any a x 2147483579 w (by omega) (by omega) ha hx
theorem rchal_any (A : Option Addr) (c n : Nat) (l : List Int) (hln : l.length = n) (w : World) (hl : IntsAt w A .i64 l) (hn : n ≤ 100000) (hf : Fit l) :
    Calls Tryz.prog 96 #[.slice A n c] w fun e w' => e = .returned (.int .i64 (chN l : Nat)) ∧ Below w.heap.size w w' := by
  have q1 := refSum_val none 0 0 [] rfl _ sum_nil w IntsAt.nil (by omega) (by simp)
  have e1 := chN_eq l
  have e2 := nextB_in 14695981039346656037 l
  have q2 := refNext_val 14695981039346656037 A c n l hln _ rfl w (by omega) hl (by omega) hf
  generalize nextB 14695981039346656037 l = N at *
  generalize chN l = C at *
  have e3 := e2.1; have e4 := e2.2
  have bb0 := Below.refl w.heap.size w
  have ⟨H_q1, H_q2, H_e1, H_e2, H_bb0, H_hl, H_hf, H_hln⟩ := hid8 q1 q2 e1 e2 bb0 hl hf hln; clear q1 q2 e1 e2 bb0 hl hf hln
  go_enter Tryz.func96, Tryz.ntmps96
  go_wp2_with fail
  refine H_q1.out.mono ?_
  rintro e w_ ⟨rfl, rfl⟩
  go_wp2_with fail
  refine H_q2.out.mono ?_
  rintro e w1 ⟨rfl, b1⟩
  have s1 := b1.size
  (try simp only [World.size_alloc, World.heap_drewN, World.size_setCell, heap_drew] at s1)
  have bb1 := H_bb0.out.trans (b1.mono (by first | omega | (simp; omega)))
  have ⟨H_b1, H_bb1⟩ := hid2 b1 bb1; clear b1 bb1
  go_wp2_with fail
  go_ret
  exact ⟨ret_int (by rw [← H_e1.out]), H_bb1.out⟩
/-- what a call that makes a list of integers leaves -/
def NewInts (l : List Int) (n : Nat) (w : World) (e : Ending) (w' : World) : Prop := ∃ B d, e = .returned (.slice B n d) ∧ IntsAt w' B .i64 l ∧ Below w.heap.size w w'
set_option maxHeartbeats 1000000 in
theorem rafter_any (a b : Int) (A : Option Addr) (c n : Nat) (l : List Int) (hln : l.length = n) (w : World) (hl : IntsAt w A .i64 l) (hn : n ≤ 100000) :
    Calls Tryz.prog 97 #[.int .i64 a, .int .i64 b, .slice A n c] w (NewInts (a :: b :: l) (2 + n) w) := by
  obtain ⟨i0, hi, hz0, hz1, hz2⟩ := info_parts infoI64
  have o0 := own_lit (w := w) (k := .i64) (E := 3) [a, b] (Nat.le_refl _) (by simp) _ rfl
  have b0 : Below w.heap.size w (w.alloc (.cells #[.int .i64 a, .int .i64 b] 3)) := (Below.refl _ _).alloc (Nat.le_refl _) _
  have ⟨H_hl, H_hln, H_o0, H_b0⟩ := hid4 hl hln o0 b0; clear hl hln o0 b0
  go_enter Tryz.func97, Tryz.ntmps97
  go_wp2_with fail
  go_loopw [7, 8] (fun v i wr => ∃ (k : Nat) (B : Option Addr) (d : Nat), k ≤ n ∧ i = .int .i64 k ∧ v = .slice B (2 + k) d ∧ OwnInts wr w.heap.size 3 .i64 B d (a :: b :: l.take k) ∧ Below w.heap.size w wr) (fun _ i _ => n - (intOf i).toNat)
  case atStart => exact ⟨0, _, _, by omega, rfl, rfl, H_o0.out, H_b0.out⟩
  case round =>
    obtain ⟨k, B, d, hk, rfl, rfl, ho, hbw⟩ := hrel
    have hsz := hbw.size
    by_cases hlt : k < n
    · obtain ⟨g, off, hA, hbs, hc⟩ := (H_hl.out.below hbw) k (by rw [H_hln.out]; exact hlt)
      have hsn := take_snocD l k 0 (by rw [H_hln.out]; exact hlt)
      have hll : (a :: b :: l.take k).length = 2 + k := by simp [H_hln.out]; omega
      generalize l.getD k 0 = x at *
      have i1 : (0 : Int) ≤ (k : Int) := by omega
      have i2 : (k : Int) < (n : Int) := by omega
      subst hA
      have ⟨H_ho, H_hbw, H_hsn, H_hll⟩ := hid4 ho hbw hsn hll; clear ho hbw hsn hll
      go_wp2_with (at_builtin; refine wp_app_at _ rfl (.tmp 18) (.tmp 23) _ rfl w.heap.size 3 i0 _ 8 Tryz.underlying42 hi hz0 hz1 hz2 rfl .i64 B d (2 + k) (a :: b :: l.take k) H_hll.out rfl (H_ho.out.alloc _) (some ⟨wr.heap.size, 0, none⟩) 1 1 [x] rfl rfl (ints_new1 _ _ _ _ _ rfl) ?_ ?_ ?_ ?_)
      · omega
      · omega
      · simp; omega
      intro B2 d2 w2 ho2 hg2 hB2
      have hb2 := (H_ho.out.alloc (.cells #[.int .i64 x] 3)).grow (H_hbw.out.alloc hsz _) hg2
      have ⟨H_ho2, H_hg2, H_hB2, H_hb2⟩ := hid4 ho2 hg2 hB2 hb2; clear ho2 hg2 hB2 hb2
      go_wp2_with fail
      go_roundw
      case rel => exact ⟨k + 1, B2, d2, by omega, by go_num, by congr 1, by rw [H_hsn.out]; exact H_ho2.out, H_hb2.out⟩
      case measure => simp [intOf]; omega
    · have hall : l.take k = l := List.take_of_length_le (by rw [H_hln.out]; omega)
      rw [hall] at ho
      have i2 : ¬ (k : Int) < (n : Int) := by omega
      have hkn : k = n := by omega
      have hoi := ho.ints
      have ⟨H_ho, H_hbw, H_hall, H_hkn, H_hoi⟩ := hid5 ho hbw hall hkn hoi; clear ho hbw hall hkn hoi
      go_wp2_with fail
      go_ret
      exact ⟨B, d, ret_slice (by rw [H_hkn.out]), H_hoi.out, H_hbw.out⟩
theorem rTime_any (n : Int) (w : World) : Calls Tryz.prog 41 #[.int .i64 n] w fun e w' => e = .returned (.bool (timeB n)) ∧ w = w' := by
  go_enter Tryz.func41, Tryz.ntmps41
  go_wp2_with fail
  all_goals
    go_ret
    exact ⟨ret_bool (by simp [timeB]; omega), rfl⟩
theorem belowPost {V : Value} {w : World} : ∀ e w', (e = Ending.returned V ∧ w = w') → (e = Ending.returned V ∧ Below w.heap.size w w') := by
  rintro e w' ⟨rfl, rfl⟩
  exact ⟨rfl, Below.refl _ _⟩
section
open Go.RowKit Go.ChangeShapes Go.WideShapes Go.ChangeAt
structure Tri where
  a : Nat
  b : Nat
  c : Nat
def Tri.cells (s : Tri) : List Value := [.int .u32 (s.a : Int), .int .u32 (s.b : Int), .int .u32 (s.c : Int)]
def TriAt (_ : World) (cs : List Value) (s : Tri) : Prop := cs = s.cells ∧ s.a ≤ 4294967295 ∧ s.b ≤ 4294967295 ∧ s.c ≤ 4294967295
def Tris (w : World) (A : Option Addr) (l : List Tri) : Prop := RowsAt 3 TriAt w A l
theorem Tris.below {w w' : World} {A : Option Addr} {l : List Tri} (h : Tris w A l) (hb : Below w.heap.size w w') : Tris w' A l := RowsAt.below h (fun _ _ h => h) hb
theorem Tris.at {w : World} {A : Option Addr} {l : List Tri} (h : Tris w A l) {i : Nat} {s : Tri} (hi : l[i]? = some s) : ∃ b off, A = some ⟨b, off, none⟩ ∧ b < w.heap.size ∧ (s.a ≤ 4294967295 ∧ s.b ≤ 4294967295 ∧ s.c ≤ 4294967295) ∧
    w.cell? ⟨b, off + i * 3, none⟩ = some (.int .u32 (s.a : Int)) ∧ w.cell? ⟨b, off + i * 3 + 1, none⟩ = some (.int .u32 (s.b : Int)) ∧ w.cell? ⟨b, off + i * 3 + 2, none⟩ = some (.int .u32 (s.c : Int)) := by
  obtain ⟨b, off, cs, e, hlt, hl, hc, rfl, hh⟩ := h i s hi
  refine ⟨b, off, e, hlt, hh, hc 0 (by omega), ?_, ?_⟩
  all_goals (rw [Nat.add_assoc])
  · exact hc 1 (by omega)
  · exact hc 2 (by omega)
theorem nat_u32 {n : Int} (h : (Lit.int .u32 n).wf = true) : ∃ x : Nat, n = (x : Int) ∧ x ≤ 4294967295 := by
  rw [Lit.wf_int_iff] at h
  have h1 : 0 ≤ n ∧ n ≤ 4294967295 := h
  exact ⟨n.toNat, by omega, by omega⟩
theorem read_tri {H : Type} {enc : TypeId × Value → H} {W : World} {held : Bool} (fuel : Nat) (cs : List Value) (x : DataW H × List MemPlace) (hl : cs.length = 3) (h : DataW.trod enc Tryz.prog W 0 (fun _ => true) held fuel 52 cs = some x) : ∃ z, TriAt W cs z := by
  have e4 : Tryz.prog.cellsOf 51 = 1 := by kernel_rfl
  obtain ⟨xs, m, _, _, _, hlen, hg⟩ := DataW.trod_array Tryz.underlying52 h
  match xs, hlen, cs, hl with
  | [y0, y1, y2], _, [c0, c1, c2], _ =>
    have g0 := hg 0 (by omega)
    have g1 := hg 1 (by omega)
    have g2 := hg 2 (by omega)
    simp [e4] at g0 g1 g2
    obtain ⟨a0, rfl, w0⟩ := read_int Tryz.underlying51 g0
    obtain ⟨a1, rfl, w1⟩ := read_int Tryz.underlying51 g1
    obtain ⟨a2, rfl, w2⟩ := read_int Tryz.underlying51 g2
    obtain ⟨x0, rfl, l0⟩ := nat_u32 w0
    obtain ⟨x1, rfl, l1⟩ := nat_u32 w1
    obtain ⟨x2, rfl, l2⟩ := nat_u32 w2
    exact ⟨⟨x0, x1, x2⟩, rfl, l0, l1, l2⟩
theorem open_tris {H : Type} {enc : TypeId × Value → H} {W : World} {base : Nat} {held : Bool} {v : Value} {d : DataW H} {p : List MemPlace} (hv : Value.okWide Tryz.prog W .any base 40 v) (h : DataW.Trod enc Tryz.prog W 0 (fun _ => true) held 40 v d p) :
    ∃ A c l, v = .slice A l.length c ∧ Tris W A l ∧ l.length ≤ c ∧ c ≤ maxLen := by
  obtain ⟨a0, len, cap, rfl⟩ := okWide_slice Tryz.underlying40 hv
  obtain ⟨fuel, hf⟩ := h
  exact read_rows (by decide) Tryz.underlying40 (by kernel_rfl) read_tri hf
end
end Go.Proofs.YtclgncaghiinhaaGreatDoor
