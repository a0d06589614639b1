/- A region that draws its order, walked in one order: operations that are quiet under a condition on the world are taken first, guarded ones whose guard is false are passed by. -/
import Derived.Lib.SlBytesConst
import Derived.Test.YtclgncaghiinhaaGreatDoorT1
import Derived.Test.YtclgncaghiinhaaGreatDoorT2
import Derived.Test.YtclgncaghiinhaaGreatDoorT3
set_option linter.unusedSimpArgs false
set_option linter.unusedVariables false
set_option maxRecDepth 100000
namespace Go.Proofs.YtclgncaghiinhaaGreatDoor
open Go.RowKit
theorem wp_app_txt (w : World) {ops : Array Oper} {rest : List Oper} {o : Oper} {a : Act} {Q : Exit → Act → World → Prop} (hgd : o.guard = none) (s x : Operand)
  (ho : o.op = .call { callee := .builtin .append, args := #[s, x], argTypes := #[161, 9] })
  (base : Nat) (A : Option Addr) (c n : Nat) (l : List Int) (hln : l.length = n) (hs : a.eval s = .slice A n c) (hown : OwnInts w base 5 .u8 A c l) (v : Int) (hx : a.eval x = .string (txt v))
  (h63 : n + (decB v).length ≤ 100000000) (hbase : base ≤ w.heap.size)
  (h : ∀ A' c' w', OwnInts w' base 5 .u8 A' c' (l ++ decB v) → w.grownBy w' (blockOf A) → wpList Tryz.prog ops Q rest (a.put o.dst (.slice A' (n + (decB v).length) c')) w') : wpList Tryz.prog ops Q (o :: rest) a w := by
 obtain ⟨i0, hi, hz0, hz1, hz2⟩ := info_parts infoU8
 subst hln
 refine Lib.wpList_append_own_string w hgd s x _ _ ho base 5 i0 Tryz.underlying161 Tryz.underlying9 hi hz0 hz1 hz2 (.slice A l.length c) l.length (l.map (Value.int .u8)) hs hown (txt v) hx (by rw [txt_size]; unfold maxLen; omega) (by rw [txt_size]; omega) hbase ?_
 intro v' w' h1 h2 _
 have e : Lib.strCells (txt v) = (decB v).map (Value.int .u8) := by simp [Lib.strCells, decB, txt]
 rw [e, ← List.map_append, txt_size, ← List.length_append] at h1
 have hv : ∃ A' c', v' = .slice A' (l ++ decB v).length c' := by
  rcases h1.2 with ⟨hv, hn⟩ | ⟨g, cap, cur, hv, _⟩
  ·exact ⟨none, 0, by rw [hv, hn]⟩
  ·exact ⟨_, cap, hv⟩
 obtain ⟨A', c', rfl⟩ := hv
 rw [ownBlock_slice] at h2
 rw [List.length_append]
 refine h A' c' w' ?_ h2
 exact h1
theorem wordsB_len (l : List Int) (h : Fit l) : (wordsB l).length ≤ 22 * l.length := by
 induction l with
 | nil => simp [wordsB]
 | cons x r ih =>
  have h1 := decB_len x (h x (by simp))
  have h2 := ih fun y hy => h y (by simp [hy])
  simp [wordsB] at h2 ⊢; omega
theorem wordsB_bytes (l : List Int) : ∀ x ∈ wordsB l, 0 ≤ x ∧ x ≤ 255 := fun x hx => by
 simp only [wordsB, List.mem_flatMap, List.mem_append] at hx
 obtain ⟨n, _, h | h⟩ := hx
 ·have := decB_mem n x h; omega
 ·have : x = 32 := by simpa using h
  omega
theorem textB_bytes (d : Int) (l : List Int) : ∀ x ∈ textB d l, 0 ≤ x ∧ x ≤ 255 := fun x hx => by
 rcases List.mem_append.1 hx with h | h
 ·exact hi8_bytes d x h
 ·exact wordsB_bytes l x h
theorem textB_len (d : Int) (l : List Int) (h : Fit l) : (textB d l).length ≤ 8 + 22 * l.length := by
 have := wordsB_len l h
 simp [textB, hi8_len]; omega
set_option maxHeartbeats 2000000 in
theorem refText_any (d : Int) (A : Option Addr) (c : Nat) (l : List Int) (w : World) (hd : 0 ≤ d ∧ d ≤ 18446744073709551615) (hl : IntsAt w A .i64 l) (hn : l.length ≤ 1000000) (hb : Fit l) :
  Calls Tryz.prog 122 #[.int .u64 d, .slice A l.length c] w fun e w' => ∃ A' c', e = .returned (.slice A' (textB d l).length c') ∧ OwnInts w' w.heap.size 5 .u8 A' c' (textB d l) ∧ Below w.heap.size w w' := by
 obtain ⟨i0, hi, hz0, hz1, hz2⟩ := info_parts infoU8
 have hd0 := hd.1
 have hd1 := hd.2
 have hwl : ∀ k, (wordsB (l.take k)).length ≤ 22 * l.length := fun k => by
  have h1 := wordsB_len (l.take k) fun x hx => hb x (List.mem_of_mem_take hx)
  have h2 : (l.take k).length ≤ l.length := List.length_take_le' _ _
  omega
 generalize hN : l.length = N at *
 have ⟨Hhl, Hhb, HhN, Hhd, Hhwl⟩ := hid5 hl hb hN hd hwl; clear hl hb hN hd hwl
 go_enter Tryz.func122, Tryz.ntmps122
 go_wp2_with fail
 go_loopw [5, 6] (fun b i wr => ∃ (k : Nat) (B : Option Addr) (e : Nat), k ≤ 8 ∧ i = .int .i64 k ∧ b = .slice B k e ∧ OwnInts wr w.heap.size 5 .u8 B e ((hi8 d).take k) ∧ Below w.heap.size w wr) (fun _ i _ => 8 - (intOf i).toNat)
 case atStart => exact ⟨0, none, 0, by omega, rfl, rfl, OwnInts.nil _ _ _ _, Below.refl _ _⟩
 case round =>
  obtain ⟨k, B, e, hk, rfl, rfl, ho, hbw⟩ := hrel
  have hsz := hbw.size
  by_cases hlt : k < 8
  ·have htl : ((hi8 d).take k).length = k := by simp [hi8_len]; omega
   have hsn := take_snocD (hi8 d) k 0 (by rw [hi8_len]; exact hlt)
   rw [hi8_get d k hlt] at hsn
   have g0 : (0 : Int) ≤ 56 - 8 * (k : Int) := by omega
   have g1 : (56 - 8 * (k : Int)).toNat = 56 - 8 * k := by omega
   have g2 : 8 * (k : Int) ≤ 56 := by omega
   have ⟨Hho, Hhbw, Hhtl, Hhsn⟩ := hid4 ho hbw htl hsn; clear ho hbw htl hsn
   go_wp2_with (at_builtin; refine wp_app_at _ rfl (.tmp 12) (.tmp 19) _ rfl w.heap.size 5 i0 _ 1 Tryz.underlying161 hi hz0 hz1 hz2 rfl .u8 B e k _ Hhtl.out rfl (Hho.out.alloc _) (some ⟨wr.heap.size, 0, none⟩) 1 1 [d / 2 ^ (56 - 8 * k) % 256] rfl rfl (ints_new1 _ _ _ _ _ rfl) ?_ ?_ ?_ ?_)
   ·omega
   ·omega
   ·simp; omega
   intro B' e' w2 ho2 hg2 hB2
   have hb2 := (Hho.out.alloc (.cells #[.int .u8 (d / 2 ^ (56 - 8 * k) % 256)] 5)).grow (Hhbw.out.alloc hsz _) hg2
   have ⟨Hho2, Hhg2, HhB2, Hhb2⟩ := hid4 ho2 hg2 hB2 hb2; clear ho2 hg2 hB2 hb2
   go_wp2_with fail
   go_roundw
   case rel => exact ⟨k + 1, B', e', by omega, by go_num, rfl, by rw [Hhsn.out]; exact Hho2.out, Hhb2.out⟩
   case measure => simp [intOf]; omega
  ·have h8 : k = 8 := by omega
   have hall : (hi8 d).take k = hi8 d := List.take_of_length_le (by rw [hi8_len]; omega)
   rw [hall] at ho
   have hst : OwnInts wr w.heap.size 5 .u8 B e (hi8 d ++ wordsB (l.take 0)) := by simpa [wordsB] using ho
   have hH := hi8_len d
   have t1 : ¬ (k : Int) < 8 := by omega
   have hk8 : k = (hi8 d ++ wordsB (l.take 0)).length := by simp [wordsB, hH]; exact h8
   have ⟨Hho, Hhbw, Hhall, Hhst, HhH, Hh8, Hhk8⟩ := hid7 ho hbw hall hst hH h8 hk8; clear ho hbw hall hst hH h8 hk8
   go_wp2_with fail
   go_loopw [5, 7] (fun b i ws => ∃ (n : Nat) (B : Option Addr) (e : Nat), n ≤ N ∧ i = .int .i64 n ∧ b = .slice B (hi8 d ++ wordsB (l.take n)).length e ∧ OwnInts ws w.heap.size 5 .u8 B e (hi8 d ++ wordsB (l.take n)) ∧ Below w.heap.size w ws) (fun _ i _ => N - (intOf i).toNat)
   case atStart => exact ⟨0, B, e, by omega, rfl, by rw [← Hhk8.out], Hhst.out, Hhbw.out⟩
   case round =>
    obtain ⟨n, B2, e2, hn2, rfl, rfl, ho2, hb2⟩ := hrel
    have hs2 := hb2.size
    by_cases hln : n < N
    ·obtain ⟨b, off, hA, hbl, hc⟩ := (Hhl.out.below hb2) n (by rw [HhN.out]; exact hln)
     have hbd := int_bd Hhb.out n
     have hsn := wordsB_snoc l n (by rw [HhN.out]; exact hln)
     have hwn := Hhwl.out n
     have i1 : (0 : Int) ≤ (n : Int) := by omega
     have i2 : (n : Int) < (N : Int) := by omega
     have hX1 : (hi8 d ++ wordsB (l.take n)).length ≤ 8 + 22 * N := by have := HhH.out; simp; omega
     have hXs : hi8 d ++ wordsB (l.take (n + 1)) = hi8 d ++ wordsB (l.take n) ++ decB (l.getD n 0) ++ [32] := by rw [hsn]; simp
     generalize hX : hi8 d ++ wordsB (l.take n) = X at *
     generalize l.getD n 0 = x at *
     have hdl := decB_len x hbd
     have hcall := decimal_any x wr hbd
     subst hA
     have ⟨Hho2, Hhb2, Hhbd, Hhsn, Hhwn, HhX, HhXs, Hhcall⟩ := hid8 ho2 hb2 hbd hsn hwn hX hXs hcall; clear ho2 hb2 hbd hsn hwn hX hXs hcall
     go_wp2_with fail
     refine Hhcall.out.mono ?_
     rintro e w3 ⟨rfl, hb3⟩
     have hs3 := hb3.size
     have ho3 := Hho2.out.below hb3
     have hbb3 := Hhb2.out.trans (hb3.mono hs2)
     generalize hDL : (decB x).length = DL at *
     have ⟨Hhb3, Hho3, Hhbb3, HhDL⟩ := hid4 hb3 ho3 hbb3 hDL; clear hb3 ho3 hbb3 hDL
     go_wp2_with (at_builtin; refine wp_app_txt _ rfl (.tmp 27) (.tmp 32) rfl w.heap.size B2 e2 X.length X rfl rfl Hho3.out x rfl ?_ ?_ ?_)
     ·rw [HhDL.out]; omega
     ·omega
     rw [HhDL.out]
     intro B4 e4 w4 ho4 hg4
     have hb4 := Hho3.out.grow Hhbb3.out hg4
     have hs4 := hb4.size
     have hl4 : (X ++ decB x).length = X.length + DL := by rw [List.length_append, HhDL.out]
     have ⟨Hho4, Hhg4, Hhb4, Hhl4⟩ := hid4 ho4 hg4 hb4 hl4; clear ho4 hg4 hb4 hl4
     go_wp2_with (at_builtin; refine wp_app_at _ rfl (.tmp 34) (.tmp 35) _ rfl w.heap.size 5 i0 _ 1 Tryz.underlying161 hi hz0 hz1 hz2 rfl .u8 B4 e4 (X.length + DL) (X ++ decB x) Hhl4.out rfl (Hho4.out.alloc _) (some ⟨w4.heap.size, 0, none⟩) 1 1 [32] rfl rfl (ints_new1 _ _ _ _ _ rfl) ?_ ?_ ?_ ?_)
     ·omega
     ·omega
     ·simp; omega
     intro B5 e5 w5 ho5 hg5 hB5
     have hb5 := (Hho4.out.alloc (.cells #[.int .u8 32] 5)).grow (Hhb4.out.alloc hs4 _) hg5
     have hl5 : X.length + DL + 1 = (X ++ decB x ++ [32]).length := by rw [List.length_append, Hhl4.out]; rfl
     have ⟨Hho5, Hhg5, HhB5, Hhb5, Hhl5⟩ := hid5 ho5 hg5 hB5 hb5 hl5; clear ho5 hg5 hB5 hb5 hl5
     go_wp2_with fail
     go_roundw
     case rel => exact ⟨n + 1, B5, e5, by omega, by go_num, by rw [HhXs.out, Hhl5.out], by rw [HhXs.out, List.append_assoc]; exact Hho5.out, Hhb5.out⟩
     case measure => simp [intOf]; omega
    ·have hal2 : l.take n = l := List.take_of_length_le (by rw [HhN.out]; omega)
     rw [hal2] at ho2 ⊢
     have i2 : ¬ (n : Int) < (N : Int) := by omega
     change OwnInts wr w.heap.size 5 .u8 B2 e2 (textB d l) at ho2
     have ⟨Hho2, Hhb2, Hhal2⟩ := hid3 ho2 hb2 hal2; clear ho2 hb2 hal2
     go_wp2_with fail
     go_ret
     exact ⟨B2, e2, ret_slice (by simp [textB]), Hho2.out, Hhb2.out⟩
theorem refNext_any (d : Int) (A : Option Addr) (c : Nat) (l : List Int) (w : World) (hd : 0 ≤ d ∧ d ≤ 18446744073709551615) (hl : IntsAt w A .i64 l) (hn : l.length ≤ 1000000) (hb : Fit l) :
  Calls Tryz.prog 112 #[.int .u64 d, .slice A l.length c] w fun e w' => e = .returned (.int .u64 (nextB d l)) ∧ Below w.heap.size w w' := by
 have hc := refText_any d A c l w hd hl hn hb
 have htl := textB_len d l hb
 have htb := bytes_getD (textB_bytes d l)
 have fin : nextB d l = sumB 14695981039346656037 (textB d l) := rfl
 generalize hT : textB d l = T at *
 have ⟨Hhl, Hhb, Hhd, Hhc, Hhtb, HhT, Hfin⟩ := hid7 hl hb hd hc htb hT fin; clear hl hb hd hc htb hT fin
 go_enter Tryz.func112, Tryz.ntmps112
 go_wp2_with fail
 refine Hhc.out.mono ?_
 rintro e w1 ⟨B, b, rfl, ho, hb1⟩
 have hs := refSum_any B b T w1 ho.ints (by omega) Hhtb.out
 have ⟨Hho, Hhb1, Hhs⟩ := hid3 ho hb1 hs; clear ho hb1 hs
 go_wp2_with fail
 refine Hhs.out.mono ?_
 rintro e w2 ⟨rfl, rfl⟩
 go_wp2_with fail
 go_ret
 exact ⟨ret_int (by rw [Hfin.out]), Hhb1.out⟩
theorem OwnInts.block {w : World} {base : Nat} {E : TypeId} {k : IntKind} {A : Option Addr} {c : Nat} {l : List Int} (h : OwnInts w base E k A c l) (hl : 0 < l.length) : ∃ g, A = some ⟨g, 0, none⟩ ∧ base ≤ g ∧ g < w.heap.size ∧ ∀ j, w.frozen? ⟨g, j, none⟩ = false := by
 rcases h.2 with ⟨hv, hn⟩ | ⟨g, cap, cur, hv, hb, hh, _⟩
 ·omega
 ·injection hv with hA _ _
  exact ⟨g, hA, hb, lt_of_block hh, fun j => frozen_of_row w g j cur E hh⟩
theorem digSum_val (A : Option Addr) (c n : Nat) (l : List Int) (hln : l.length = n) (v : Int) (hv : sumB 14695981039346656037 l = v) (w : World) (hl : IntsAt w A .u8 l) (hn : n ≤ 100000000) (hb : ∀ x ∈ l, 0 ≤ x ∧ x ≤ 255) :
  Calls Tryz.prog 113 #[.slice A n c] w fun e w' => e = .returned (.int .u64 v) ∧ Below w.heap.size w w' := by
 subst hln hv; exact digSum_any A c l w hl (by omega) (bytes_getD hb)
theorem refSum_val (A : Option Addr) (c n : Nat) (l : List Int) (hln : l.length = n) (v : Int) (hv : sumB 14695981039346656037 l = v) (w : World) (hl : IntsAt w A .u8 l) (hn : n ≤ 100000000) (hb : ∀ x ∈ l, 0 ≤ x ∧ x ≤ 255) :
  Calls Tryz.prog 114 #[.slice A n c] w fun e w' => e = .returned (.int .u64 v) ∧ w = w' := by
 subst hln hv; exact refSum_any A c l w hl (by omega) (bytes_getD hb)
theorem digNext_val (d : Int) (A : Option Addr) (c n : Nat) (l : List Int) (hln : l.length = n) (v : Int) (hv : nextB d l = v) (w : World) (hd : 0 ≤ d ∧ d ≤ 18446744073709551615) (hl : IntsAt w A .i64 l) (hn : n ≤ 1000000) (hb : Fit l) (ht : Tab w) :
  Calls Tryz.prog 101 #[.int .u64 d, .slice A n c] w fun e w' => e = .returned (.int .u64 v) ∧ Below w.heap.size w w' := by
 subst hln hv; exact digNext_any d A c l w hd hl hn hb ht
theorem refNext_val (d : Int) (A : Option Addr) (c n : Nat) (l : List Int) (hln : l.length = n) (v : Int) (hv : nextB d l = v) (w : World) (hd : 0 ≤ d ∧ d ≤ 18446744073709551615) (hl : IntsAt w A .i64 l) (hn : n ≤ 1000000) (hb : Fit l) :
  Calls Tryz.prog 112 #[.int .u64 d, .slice A n c] w fun e w' => e = .returned (.int .u64 v) ∧ Below w.heap.size w w' := by
 subst hln hv; exact refNext_any d A c l w hd hl hn hb
theorem sum_nil : sumB 14695981039346656037 [] = 14695981039346656037 := by simp only [sumB, List.foldl_nil]
def wB (n lo hi : Int) : Bool := decide (lo ≤ n ∧ n ≤ hi)
theorem wB_iff {n lo hi : Int} : wB n lo hi = true ↔ lo ≤ n ∧ n ≤ hi := by simp [wB]
theorem wB_no {n lo hi : Int} : wB n lo hi = false ↔ ¬ (lo ≤ n ∧ n ≤ hi) := by simp only [wB, decide_eq_false_iff_not]
/-- integers that rise from a number on -/
def risB : Int → List Int → Bool
 | _, [] => true
 | d, x :: r => wB x (d + 1) 1000000 && risB x r
theorem ris_drop {d : Int} {l : List Int} {k : Nat} (h : k < l.length) : risB d (l.drop k) = (wB (l.getD k 0) (d + 1) 1000000 && risB (l.getD k 0) (l.drop (k + 1))) := by
 rw [List.drop_eq_getElem_cons h, risB]
 simp [List.getD_eq_getElem?_getD, h]
theorem ris_end {d : Int} {l : List Int} {k : Nat} (h : l.length ≤ k) : risB d (l.drop k) = true := by
 rw [List.drop_eq_nil_of_le h, risB]
def cntB (n : Int) : Bool := wB n 0 1000000000
def len5B (n : Nat) : Bool := decide (n ≤ 500)
/-- the fields of a slot but for its sum may be -/
def fldB (s c : Int) (l : List Int) : Bool := cntB s && cntB c && len5B l.length && risB 0 l
/-- the right sum of a slot -/
def sumS (s c : Int) (l : List Int) : Int := nextB 0 (s :: c :: l)
theorem sumS_in (s c : Int) (l : List Int) : 0 ≤ sumS s c l ∧ sumS s c l ≤ 18446744073709551615 := nextB_in _ _
/-- a slot is whole -/
def vldB (s c : Int) (l : List Int) (u : Int) : Bool := fldB s c l && (sumS s c l == u)
structure Slt where
 s : Int
 c : Int
 l : List Int
 u : Int
 deriving DecidableEq
def Slt.ok (x : Slt) : Bool := vldB x.s x.c x.l x.u
def Slt.zero : Slt := ⟨0, 0, [], 0⟩
def Slt.made (s c : Int) (l : List Int) : Slt := ⟨s, c, l, sumS s c l⟩
def Slt.fit (x : Slt) : Prop := (-9223372036854775808 ≤ x.s ∧ x.s ≤ 9223372036854775807) ∧ (-9223372036854775808 ≤ x.c ∧ x.c ≤ 9223372036854775807) ∧ Fit x.l ∧ (0 ≤ x.u ∧ x.u ≤ 18446744073709551615) ∧ x.l.length ≤ 1000
/-- the best of two slots -/
def bestI (x y : Slt) : Int := if (y.ok && (!x.ok || decide (x.s < y.s))) = true then 1 else 0
def bestB (x y : Slt) : Bool := x.ok || y.ok
/-- the serial number of the best slot -/
def topS (x y : Slt) : Int := if bestB x y = true then (if bestI x y = 1 then y.s else x.s) else 0
/-- the error of a write -/
def wrE (x y : Slt) (c : Int) (l : List Int) (at_ : Int) : Int :=
 if l.length > 500 then 2 else if fldB 0 c l = false then 1 else if wB at_ 0 3 = false then 1 else if topS x y = 1000000000 then 3 else 0
/-- what is written -/
def wrS (x y : Slt) (c : Int) (l : List Int) (at_ : Int) : Slt :=
 ⟨topS x y + 1, c, l, if at_ = 1 then (sumS (topS x y + 1) c l + 1) % 18446744073709551616 else sumS (topS x y + 1) c l⟩
/-- is the first slot written? -/
def into0 (x y : Slt) : Bool := !bestB x y || (bestI x y == 1)
def wr0 (x y : Slt) (c : Int) (l : List Int) (at_ : Int) : Slt :=
 if wrE x y c l at_ = 0 then (if into0 x y = true ∧ at_ ≠ 0 then wrS x y c l at_ else x) else Slt.zero
def wr1 (x y : Slt) (c : Int) (l : List Int) (at_ : Int) : Slt :=
 if wrE x y c l at_ = 0 then (if into0 x y = false ∧ at_ ≠ 0 then wrS x y c l at_ else y) else Slt.zero
section
/-- a cell that is there, holds v, and may be written -/
def Cel (w : World) (b o : Nat) (v : Value) : Prop := b < w.heap.size ∧ w.cell? ⟨b, o, none⟩ = some v ∧ w.frozen? ⟨b, o, none⟩ = false
section
variable {w w' : World} {b o : Nat} {v : Value}
theorem Cel.lt (h : Cel w b o v) : b < w.heap.size := h.1
theorem Cel.at (h : Cel w b o v) : w.cell? ⟨b, o, none⟩ = some v := h.2.1
theorem Cel.free (h : Cel w b o v) : w.frozen? ⟨b, o, none⟩ = false := h.2.2
theorem Cel.below (h : Cel w b o v) (hb : Below w.heap.size w w') : Cel w' b o v := ⟨Nat.lt_of_lt_of_le h.1 hb.size, keepc hb h.1 h.2.1, keepf hb h.1 h.2.2⟩
theorem frozen_set (w : World) (p q : Addr) (u : Value) : (w.setCell p u).frozen? q = w.frozen? q := by simp
theorem Cel.same (h : Cel w b o v) (u : Value) : Cel (w.setCell ⟨b, o, none⟩ u) b o u := ⟨by simpa using h.1, World.cell?_setCell_same _ _ _ h.2.1, (frozen_set _ _ _ _).trans h.2.2⟩
theorem Cel.other (h : Cel w b o v) {p : Addr} (hp : p ≠ ⟨b, o, none⟩) (u : Value) : Cel (w.setCell p u) b o v :=
 ⟨by simpa using h.1, (World.cell?_setCell_other _ _ _ _ hp).trans h.2.1, (frozen_set _ _ _ _).trans h.2.2⟩
theorem Cel.far (h : Cel w b o v) {g p : Nat} (hp : g ≠ b) (u : Value) : Cel (w.setCell ⟨g, p, none⟩ u) b o v := h.other (by simp only [ne_eq, Addr.mk.injEq, and_true, not_and]; exact fun h => absurd h hp) u
theorem Cel.near (h : Cel w b o v) {p : Nat} (hp : p ≠ o) (u : Value) : Cel (w.setCell ⟨b, p, none⟩ u) b o v := h.other (by simp only [ne_eq, Addr.mk.injEq, and_true, not_and]; exact fun _ => hp) u
theorem Cel.alloc (h : Cel w b o v) (x : Obj) : Cel (w.alloc x) b o v := h.below ((Below.refl _ _).alloc (Nat.le_refl _) x)
theorem cel_new {w : World} {vs : Array Value} {t : TypeId} {n : Nat} (hn : w.heap.size = n) {o : Nat} {v : Value} (h : vs[o]? = some v) : Cel (w.alloc (.cells vs t)) n o v := by
 subst hn
 exact ⟨by simp, by rw [cell_of_row _ _ _ _ _ _ (heap_alloc_new w _)]; exact h, frozen_of_row _ _ _ _ _ (heap_alloc_new w _)⟩
theorem below_set {B : Nat} {w0 w : World} (h : Below B w0 w) {b : Nat} (hb : B ≤ b) (o : Nat) (v : Value) : Below B w0 (w.setCell ⟨b, o, none⟩ v) := h.setCell hb v
end
/-- four cells -/
def Cel4 (w : World) (b o : Nat) (v0 v1 v2 v3 : Value) : Prop := Cel w b o v0 ∧ Cel w b (o + 1) v1 ∧ Cel w b (o + 2) v2 ∧ Cel w b (o + 3) v3
section
variable {w w' : World} {b o : Nat} {v0 v1 v2 v3 : Value}
theorem Cel4.below (h : Cel4 w b o v0 v1 v2 v3) (hb : Below w.heap.size w w') : Cel4 w' b o v0 v1 v2 v3 := ⟨h.1.below hb, h.2.1.below hb, h.2.2.1.below hb, h.2.2.2.below hb⟩
theorem Cel4.far (h : Cel4 w b o v0 v1 v2 v3) {g p : Nat} (hp : g ≠ b) (u : Value) : Cel4 (w.setCell ⟨g, p, none⟩ u) b o v0 v1 v2 v3 := ⟨h.1.far hp u, h.2.1.far hp u, h.2.2.1.far hp u, h.2.2.2.far hp u⟩
theorem Cel4.alloc (h : Cel4 w b o v0 v1 v2 v3) (x : Obj) : Cel4 (w.alloc x) b o v0 v1 v2 v3 := h.below ((Below.refl _ _).alloc (Nat.le_refl _) x)
theorem Cel4.drew (h : Cel4 w b o v0 v1 v2 v3) : Cel4 w.drew b o v0 v1 v2 v3 := h
theorem Cel4.set4 (h : Cel4 w b o v0 v1 v2 v3) (u0 u1 u2 u3 : Value) : Cel4 ((((w.setCell ⟨b, o, none⟩ u0).setCell ⟨b, o + 1, none⟩ u1).setCell ⟨b, o + 2, none⟩ u2).setCell ⟨b, o + 3, none⟩ u3) b o u0 u1 u2 u3 := by
 obtain ⟨h0, h1, h2, h3⟩ := h
 refine ⟨?_, ?_, ?_, ?_⟩
 ·exact (((h0.same _).near (by omega) _).near (by omega) _).near (by omega) _
 ·exact (((h1.near (by omega) _).same _).near (by omega) _).near (by omega) _
 ·exact (((h2.near (by omega) _).near (by omega) _).same _).near (by omega) _
 ·exact (((h3.near (by omega) _).near (by omega) _).near (by omega) _).same _
theorem below_set4 {B : Nat} {w0 : World} (h : Below B w0 w) (hb : B ≤ b) (o0 o1 o2 o3 : Nat) (u0 u1 u2 u3 : Value) : Below B w0 ((((w.setCell ⟨b, o0, none⟩ u0).setCell ⟨b, o1, none⟩ u1).setCell ⟨b, o2, none⟩ u2).setCell ⟨b, o3, none⟩ u3) :=
 below_set (below_set (below_set (below_set h hb _ _) hb _ _) hb _ _) hb _ _
end
theorem OwnInts.base_le {w : World} {base base' : Nat} {E : TypeId} {k : IntKind} {A : Option Addr} {c : Nat} {l : List Int} (h : OwnInts w base E k A c l) (hb : base' ≤ base) : OwnInts w base' E k A c l := by
 refine ⟨h.1, ?_⟩
 rcases h.2 with h2 | ⟨g, cap, cur, hv, hg, hr⟩
 ·exact .inl h2
 ·exact .inr ⟨g, cap, cur, hv, by omega, hr⟩
end
section
section
variable {P : Program} {ops : Array Oper} {Q : Exit → Act → World → Prop} {md : Region.Mode} {S : World → Prop}
/-- all that is asked of the order in which an operation comes -/
def mayTake (md : Region.Mode) (ops : Array Oper) (listed : Array Bool) (i : Nat) : Bool := Region.noSelect ops && Region.free md ops listed i && (Region.ready md ops listed).contains i
theorem take_at {i : Nat} (d : Option Tmp) {o : Oper} {v : Value} {fuel : Nat} {listed : Array Bool} {a : Act} {w : World} (hi : ops[i]? = some o) (hd : o.dst = d) (hb : mayTake md ops listed i = true)
  (hQ : ∀ c a w, Q (.panic c) (a.put d v) w → Q (.panic c) a w) (hw : Region.wanted o (yielded ops a.tmps) = true) (hy : ∀ w, S w → (execOp a.eval o).run P w = .ok (.value v) w) (hS : S w)
  (h : wpAnyH P md ops Q S fuel (listed.setIfInBounds i true) (a.put d v) w) : wpAnyH P md ops Q S (fuel + 1) listed a w := by
 subst hd
 simp only [mayTake, Bool.and_eq_true] at hb
 exact wpAnyH_take hi hb.1.1 hb.1.2 hb.2 hQ (.inl ⟨hw, hy⟩) hS h
theorem skip_at {i : Nat} (d : Option Tmp) {o : Oper} {fuel : Nat} {listed : Array Bool} {a : Act} {w : World} (hi : ops[i]? = some o) (hd : o.dst = d) (hb : mayTake md ops listed i = true)
  (hQ : ∀ c a w, Q (.panic c) (a.put d undef) w → Q (.panic c) a w) (hw : Region.wanted o (yielded ops a.tmps) = false) (hS : S w)
  (h : wpAnyH P md ops Q S fuel (listed.setIfInBounds i true) (a.put d undef) w) : wpAnyH P md ops Q S (fuel + 1) listed a w := by
 subst hd
 simp only [mayTake, Bool.and_eq_true] at hb
 exact wpAnyH_take hi hb.1.1 hb.1.2 hb.2 hQ (.inr ⟨hw, rfl⟩) hS h
/-- as take_at, what is always the same proved by default (merge.py writes it under TIGHT=1; ask for it with EXTRA=tq) -/
theorem tq (i : Nat) (d : Option Tmp) {o : Oper} {v : Value} {fuel : Nat} {listed : Array Bool} {a : Act} {w : World} (h : wpAnyH P md ops Q S fuel (listed.setIfInBounds i true) (a.put d v) w) (hi : ops[i]? = some o := by rfl) (hd : o.dst = d := by rfl) (hb : mayTake md ops listed i = true := by kernel_rfl) (hQ : ∀ c a w, Q (.panic c) (a.put d v) w → Q (.panic c) a w := by exact fun _ _ _ h => h) (hw : Region.wanted o (yielded ops a.tmps) = true := by rfl) (hy : ∀ w, S w → (execOp a.eval o).run P w = .ok (.value v) w := by intro W hSw; (try dsimp only at hSw); go_simp; (try with_reducible rfl)) (hS : S w := by assumption) : wpAnyH P md ops Q S (fuel + 1) listed a w := take_at d hi hd hb hQ hw hy hS h
end
end
end Go.Proofs.YtclgncaghiinhaaGreatDoor
