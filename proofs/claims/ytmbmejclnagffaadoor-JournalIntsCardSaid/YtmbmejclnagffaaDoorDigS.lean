/- Contracts of the reference of digest: Text, Next. -/
import Derived.Test.YtmbmejclnagffaaDoorDigR
namespace Go.Proofs.YtmbmejclnagffaaDoor
set_option linter.unusedSimpArgs false
set_option linter.unusedVariables false
set_option maxRecDepth 100000
open Go.RowKit

theorem wp_app_txt (w : World) {ops : Array Oper} {rest : List Oper} {o : Oper} {a : Act} {Q : Exit → Act → World → Prop} (hgd : o.guard = none) (s x : Operand)
    (ho : o.op = .call { callee := .builtin .append, args := #[s, x], argTypes := #[110, 9] })
    (base : Nat) (A : Option Addr) (c n : Nat) (l : List Int) (hln : l.length = n) (hs : a.eval s = .slice A n c) (hown : OwnInts w base 5 .u8 A c l) (v : Int) (hx : a.eval x = .string (txt v))
    (h63 : n + (decB v).length ≤ 100000000) (hbase : base ≤ w.heap.size)
    (h : ∀ A' c' w', OwnInts w' base 5 .u8 A' c' (l ++ decB v) → w.grownBy w' (blockOf A) → wpList Tryd.prog ops Q rest (a.put o.dst (.slice A' (n + (decB v).length) c')) w') : wpList Tryd.prog ops Q (o :: rest) a w := by
  obtain ⟨i0, hi, hz0, hz1, hz2⟩ := info_parts infoU8
  subst hln
  refine Lib.wpList_append_own_string w hgd s x _ _ ho base 5 i0 Tryd.underlying110 Tryd.underlying9 hi hz0 hz1 hz2 (.slice A l.length c) l.length (l.map (Value.int .u8)) hs hown (txt v) hx (by rw [txt_size]; unfold maxLen; omega) (by rw [txt_size]; omega) hbase ?_
  intro v' w' h1 h2 _
  have e : Lib.strCells (txt v) = (decB v).map (Value.int .u8) := by simp [Lib.strCells, decB, txt]
  rw [e, ← List.map_append, txt_size, ← List.length_append] at h1
  have hv : ∃ A' c', v' = .slice A' (l ++ decB v).length c' := by
    rcases h1.2 with ⟨hv, hn⟩ | ⟨g, cap, cur, hv, _⟩
    · exact ⟨none, 0, by rw [hv, hn]⟩
    · exact ⟨_, cap, hv⟩
  obtain ⟨A', c', rfl⟩ := hv
  rw [ownBlock_slice] at h2
  rw [List.length_append]
  refine h A' c' w' ?_ h2
  exact h1

theorem wordsB_len (l : List Int) (h : Fit l) : (wordsB l).length ≤ 22 * l.length := by
  induction l with
  | nil => simp [wordsB]
  | cons x r ih =>
    have h1 := decB_len x (h x (by simp))
    have h2 := ih fun y hy => h y (by simp [hy])
    simp [wordsB] at h2 ⊢; omega
theorem wordsB_bytes (l : List Int) : ∀ x ∈ wordsB l, 0 ≤ x ∧ x ≤ 255 := fun x hx => by
  simp only [wordsB, List.mem_flatMap, List.mem_append] at hx
  obtain ⟨n, _, h | h⟩ := hx
  · have := decB_mem n x h; omega
  · have : x = 32 := by simpa using h
    omega
theorem textB_bytes (d : Int) (l : List Int) : ∀ x ∈ textB d l, 0 ≤ x ∧ x ≤ 255 := fun x hx => by
  rcases List.mem_append.1 hx with h | h
  · exact hi8_bytes d x h
  · exact wordsB_bytes l x h
theorem textB_len (d : Int) (l : List Int) (h : Fit l) : (textB d l).length ≤ 8 + 22 * l.length := by
  have := wordsB_len l h
  simp [textB, hi8_len]; omega

set_option maxHeartbeats 2000000 in
theorem refText_any (d : Int) (A : Option Addr) (c : Nat) (l : List Int) (w : World) (hd : 0 ≤ d ∧ d ≤ 18446744073709551615) (hl : IntsAt w A .i64 l) (hn : l.length ≤ 1000000) (hb : Fit l) :
    Calls Tryd.prog 81 #[.int .u64 d, .slice A l.length c] w fun e w' => ∃ A' c', e = .returned (.slice A' (textB d l).length c') ∧ OwnInts w' w.heap.size 5 .u8 A' c' (textB d l) ∧ Below w.heap.size w w' := by
  obtain ⟨i0, hi, hz0, hz1, hz2⟩ := info_parts infoU8
  have hd0 := hd.1
  have hd1 := hd.2
  have hwl : ∀ k, (wordsB (l.take k)).length ≤ 22 * l.length := fun k => by
    have h1 := wordsB_len (l.take k) fun x hx => hb x (List.mem_of_mem_take hx)
    have h2 : (l.take k).length ≤ l.length := List.length_take_le' _ _
    omega
  generalize hN : l.length = N at *
  have H_hl := Lib.hid hl; clear hl; have H_hb := Lib.hid hb; clear hb; have H_hN := Lib.hid hN; clear hN; have H_hd := Lib.hid hd; clear hd; have H_hwl := Lib.hid hwl; clear hwl
  go_enter Tryd.func81, Tryd.ntmps81
  go_wp2_with fail
  go_loopw [5, 6] (fun b i wr => ∃ (k : Nat) (B : Option Addr) (e : Nat), k ≤ 8 ∧ i = .int .i64 k ∧ b = .slice B k e ∧ OwnInts wr w.heap.size 5 .u8 B e ((hi8 d).take k) ∧ Below w.heap.size w wr) (fun _ i _ => 8 - (intOf i).toNat)
  case atStart => exact ⟨0, none, 0, by omega, rfl, rfl, OwnInts.nil _ _ _ _, Below.refl _ _⟩
  case round =>
    obtain ⟨k, B, e, hk, rfl, rfl, ho, hbw⟩ := hrel
    have hsz := hbw.size
    by_cases hlt : k < 8
    · have htl : ((hi8 d).take k).length = k := by simp [hi8_len]; omega
      have hsn := take_snocD (hi8 d) k 0 (by rw [hi8_len]; exact hlt)
      rw [hi8_get d k hlt] at hsn
      have g0 : (0 : Int) ≤ 56 - 8 * (k : Int) := by omega
      have g1 : (56 - 8 * (k : Int)).toNat = 56 - 8 * k := by omega
      have g2 : 8 * (k : Int) ≤ 56 := by omega
      have H_ho := Lib.hid ho; clear ho; have H_hbw := Lib.hid hbw; clear hbw; have H_htl := Lib.hid htl; clear htl; have H_hsn := Lib.hid hsn; clear hsn
      go_wp2_with (at_builtin; refine wp_app_at _ rfl (.tmp 12) (.tmp 19) _ rfl w.heap.size 5 i0 _ 1 Tryd.underlying110 hi hz0 hz1 hz2 rfl .u8 B e k _ H_htl.out rfl (H_ho.out.alloc _) (some ⟨wr.heap.size, 0, none⟩) 1 1 [d / 2 ^ (56 - 8 * k) % 256] rfl rfl (ints_new1 _ _ _ _ _ rfl) ?_ ?_ ?_ ?_)
      · omega
      · omega
      · simp; omega
      intro B' e' w2 ho2 hg2 hB2
      have hb2 := (H_ho.out.alloc (.cells #[.int .u8 (d / 2 ^ (56 - 8 * k) % 256)] 5)).grow (H_hbw.out.alloc hsz _) hg2
      have H_ho2 := Lib.hid ho2; clear ho2; have H_hg2 := Lib.hid hg2; clear hg2; have H_hB2 := Lib.hid hB2; clear hB2; have H_hb2 := Lib.hid hb2; clear hb2
      go_wp2_with fail
      go_roundw
      case rel => exact ⟨k + 1, B', e', by omega, by go_num, rfl, by rw [H_hsn.out]; exact H_ho2.out, H_hb2.out⟩
      case measure => simp [intOf]; omega
    · have h8 : k = 8 := by omega
      have hall : (hi8 d).take k = hi8 d := List.take_of_length_le (by rw [hi8_len]; omega)
      rw [hall] at ho
      have hst : OwnInts wr w.heap.size 5 .u8 B e (hi8 d ++ wordsB (l.take 0)) := by simpa [wordsB] using ho
      have hH := hi8_len d
      have t1 : ¬ (k : Int) < 8 := by omega
      have hk8 : k = (hi8 d ++ wordsB (l.take 0)).length := by simp [wordsB, hH]; exact h8
      have H_ho := Lib.hid ho; clear ho; have H_hbw := Lib.hid hbw; clear hbw; have H_hall := Lib.hid hall; clear hall; have H_hst := Lib.hid hst; clear hst; have H_hH := Lib.hid hH; clear hH; have H_h8 := Lib.hid h8; clear h8; have H_hk8 := Lib.hid hk8; clear hk8
      go_wp2_with fail
      go_loopw [5, 7] (fun b i ws => ∃ (n : Nat) (B : Option Addr) (e : Nat), n ≤ N ∧ i = .int .i64 n ∧ b = .slice B (hi8 d ++ wordsB (l.take n)).length e ∧ OwnInts ws w.heap.size 5 .u8 B e (hi8 d ++ wordsB (l.take n)) ∧ Below w.heap.size w ws) (fun _ i _ => N - (intOf i).toNat)
      case atStart => exact ⟨0, B, e, by omega, rfl, by rw [← H_hk8.out], H_hst.out, H_hbw.out⟩
      case round =>
        obtain ⟨n, B2, e2, hn2, rfl, rfl, ho2, hb2⟩ := hrel
        have hs2 := hb2.size
        by_cases hln : n < N
        · obtain ⟨b, off, hA, hbl, hc⟩ := (H_hl.out.below hb2) n (by rw [H_hN.out]; exact hln)
          have hbd := int_bd H_hb.out n
          have hsn := wordsB_snoc l n (by rw [H_hN.out]; exact hln)
          have hwn := H_hwl.out n
          have i1 : (0 : Int) ≤ (n : Int) := by omega
          have i2 : (n : Int) < (N : Int) := by omega
          have hX1 : (hi8 d ++ wordsB (l.take n)).length ≤ 8 + 22 * N := by have := H_hH.out; simp; omega
          have hXs : hi8 d ++ wordsB (l.take (n + 1)) = hi8 d ++ wordsB (l.take n) ++ decB (l.getD n 0) ++ [32] := by rw [hsn]; simp
          generalize hX : hi8 d ++ wordsB (l.take n) = X at *
          generalize l.getD n 0 = x at *
          have hdl := decB_len x hbd
          have hcall := decimal_any x wr hbd
          subst hA
          have H_ho2 := Lib.hid ho2; clear ho2; have H_hb2 := Lib.hid hb2; clear hb2; have H_hbd := Lib.hid hbd; clear hbd; have H_hsn := Lib.hid hsn; clear hsn; have H_hwn := Lib.hid hwn; clear hwn; have H_hX := Lib.hid hX; clear hX; have H_hXs := Lib.hid hXs; clear hXs; have H_hcall := Lib.hid hcall; clear hcall
          go_wp2_with fail
          refine H_hcall.out.mono ?_
          rintro e w3 ⟨rfl, hb3⟩
          have hs3 := hb3.size
          have ho3 := H_ho2.out.below hb3
          have hbb3 := H_hb2.out.trans (hb3.mono hs2)
          generalize hDL : (decB x).length = DL at *
          have H_hb3 := Lib.hid hb3; clear hb3; have H_ho3 := Lib.hid ho3; clear ho3; have H_hbb3 := Lib.hid hbb3; clear hbb3; have H_hDL := Lib.hid hDL; clear hDL
          go_wp2_with (at_builtin; refine wp_app_txt _ rfl (.tmp 27) (.tmp 32) rfl w.heap.size B2 e2 X.length X rfl rfl H_ho3.out x rfl ?_ ?_ ?_)
          · rw [H_hDL.out]; omega
          · omega
          rw [H_hDL.out]
          intro B4 e4 w4 ho4 hg4
          have hb4 := H_ho3.out.grow H_hbb3.out hg4
          have hs4 := hb4.size
          have hl4 : (X ++ decB x).length = X.length + DL := by rw [List.length_append, H_hDL.out]
          have H_ho4 := Lib.hid ho4; clear ho4; have H_hg4 := Lib.hid hg4; clear hg4; have H_hb4 := Lib.hid hb4; clear hb4; have H_hl4 := Lib.hid hl4; clear hl4
          go_wp2_with (at_builtin; refine wp_app_at _ rfl (.tmp 34) (.tmp 35) _ rfl w.heap.size 5 i0 _ 1 Tryd.underlying110 hi hz0 hz1 hz2 rfl .u8 B4 e4 (X.length + DL) (X ++ decB x) H_hl4.out rfl (H_ho4.out.alloc _) (some ⟨w4.heap.size, 0, none⟩) 1 1 [32] rfl rfl (ints_new1 _ _ _ _ _ rfl) ?_ ?_ ?_ ?_)
          · omega
          · omega
          · simp; omega
          intro B5 e5 w5 ho5 hg5 hB5
          have hb5 := (H_ho4.out.alloc (.cells #[.int .u8 32] 5)).grow (H_hb4.out.alloc hs4 _) hg5
          have hl5 : X.length + DL + 1 = (X ++ decB x ++ [32]).length := by rw [List.length_append, H_hl4.out]; rfl
          have H_ho5 := Lib.hid ho5; clear ho5; have H_hg5 := Lib.hid hg5; clear hg5; have H_hB5 := Lib.hid hB5; clear hB5; have H_hb5 := Lib.hid hb5; clear hb5; have H_hl5 := Lib.hid hl5; clear hl5
          go_wp2_with fail
          go_roundw
          case rel => exact ⟨n + 1, B5, e5, by omega, by go_num, by rw [H_hXs.out, H_hl5.out], by rw [H_hXs.out, List.append_assoc]; exact H_ho5.out, H_hb5.out⟩
          case measure => simp [intOf]; omega
        · have hal2 : l.take n = l := List.take_of_length_le (by rw [H_hN.out]; omega)
          rw [hal2] at ho2 ⊢
          have i2 : ¬ (n : Int) < (N : Int) := by omega
          change OwnInts wr w.heap.size 5 .u8 B2 e2 (textB d l) at ho2
          have H_ho2 := Lib.hid ho2; clear ho2; have H_hb2 := Lib.hid hb2; clear hb2; have H_hal2 := Lib.hid hal2; clear hal2
          go_wp2_with fail
          go_ret
          exact ⟨B2, e2, ret_slice (by simp [textB]), H_ho2.out, H_hb2.out⟩

theorem refSum_at (A : Option Addr) (c n : Nat) (l : List Int) (hln : l.length = n) (w : World) (hl : IntsAt w A .u8 l) (hn : n ≤ 100000000) (hb : ∀ i, 0 ≤ l.getD i 0 ∧ l.getD i 0 ≤ 255) :
    Calls Tryd.prog 73 #[.slice A n c] w fun e w' => e = .returned (.int .u64 (sumB 14695981039346656037 l)) ∧ w = w' := by
  subst hln; exact refSum_any A c l w hl (by omega) hb
theorem refNext_any (d : Int) (A : Option Addr) (c : Nat) (l : List Int) (w : World) (hd : 0 ≤ d ∧ d ≤ 18446744073709551615) (hl : IntsAt w A .i64 l) (hn : l.length ≤ 1000000) (hb : Fit l) :
    Calls Tryd.prog 74 #[.int .u64 d, .slice A l.length c] w fun e w' => e = .returned (.int .u64 (nextB d l)) ∧ Below w.heap.size w w' := by
  have hc := refText_any d A c l w hd hl hn hb
  have htl := textB_len d l hb
  have htb := bytes_getD (textB_bytes d l)
  have fin : nextB d l = sumB 14695981039346656037 (textB d l) := rfl
  generalize hT : textB d l = T at *
  have H_hl := Lib.hid hl; clear hl; have H_hb := Lib.hid hb; clear hb; have H_hd := Lib.hid hd; clear hd; have H_hc := Lib.hid hc; clear hc; have H_htb := Lib.hid htb; clear htb; have H_hT := Lib.hid hT; clear hT; have H_fin := Lib.hid fin; clear fin
  go_enter Tryd.func74, Tryd.ntmps74
  go_wp2_with fail
  refine H_hc.out.mono ?_
  rintro e w1 ⟨B, b, rfl, ho, hb1⟩
  have hs := refSum_any B b T w1 ho.ints (by omega) H_htb.out
  have H_ho := Lib.hid ho; clear ho; have H_hb1 := Lib.hid hb1; clear hb1; have H_hs := Lib.hid hs; clear hs
  go_wp2_with fail
  refine H_hs.out.mono ?_
  rintro e w2 ⟨rfl, rfl⟩
  go_wp2_with fail
  go_ret
  exact ⟨ret_int (by rw [H_fin.out]), H_hb1.out⟩
theorem refNext_at (d : Int) (A : Option Addr) (c n : Nat) (l : List Int) (hln : l.length = n) (w : World) (hd : 0 ≤ d ∧ d ≤ 18446744073709551615) (hl : IntsAt w A .i64 l) (hn : n ≤ 1000000) (hb : Fit l) :
    Calls Tryd.prog 74 #[.int .u64 d, .slice A n c] w fun e w' => e = .returned (.int .u64 (nextB d l)) ∧ Below w.heap.size w w' := by
  subst hln; exact refNext_any d A c l w hd hl hn hb
end Go.Proofs.YtmbmejclnagffaaDoor
