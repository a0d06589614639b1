/- The contracts of library functions at this translation, laid by the kit's shelf: no condition beyond those that each one names. -/
import Derived.Laws.BitsAllLaws
import Derived.Lib.ItoaNum
import Derived.Lib.ItoaLen
import Derived.Shelf.Small.Wraps
import Derived.Shelf.Strconv.Itoa0
import Derived.Shelf.Strconv.Itoa1
import Derived.Shelf.LaysM
import Derived.Shelf.Strconv.Itoa2
import Derived.Shelf.Strconv.Itoa3
import Derived.Shelf.Slices.Turned
import Derived.Shelf.Slices.Reverse
import Derived.Ground.Names2Prog
import Derived.Shelf.Slices.Clone
import Derived.Shelf.Slices.SearchI
import Derived.Shelf.Slices.Cells
import Derived.Shelf.Slices.Empties
import Derived.Test.YtclgncaghiinhaaGreatDoorProg
import Derived.Test.YtclgncaghiinhaaGreatDoorU1
set_option linter.unusedSimpArgs false
set_option linter.unusedVariables false
set_option maxRecDepth 100000
namespace Go.Proofs.YtclgncaghiinhaaGreatDoor
open Go.RowKit
theorem own_lit {w : World} {base : Nat} {E : TypeId} {k : IntKind} (l : List Int) (hb : base ≤ w.heap.size) (hl : l.length ≤ 1000) (n : Nat) (hn : w.heap.size = n) :
  OwnInts (w.alloc (.cells (l.map (Value.int k)).toArray E)) base E k (some ⟨n, 0, none⟩) l.length l := by
 subst hn
 have := World.ownsRow_lit (base := base) (e := E) (size := 1) w (l.map (Value.int k)).toArray l.length hb (by unfold maxLen; omega) (by simp)
 simpa [OwnInts] using this
theorem ints_lit {w : World} {E : TypeId} {k : IntKind} (l : List Int) (n : Nat) (hn : w.heap.size = n) : IntsAt (w.alloc (.cells (l.map (Value.int k)).toArray E)) (some ⟨n, 0, none⟩) k l := fun i hi => by
 subst hn
 refine ⟨w.heap.size, 0, rfl, by simp, ?_⟩
 rw [cell_of_row _ _ _ _ _ _ (heap_alloc_new w _)]
 simp [List.getD_eq_getElem?_getD, hi]
theorem mem_getD {P : Int → Prop} {l : List Int} (h : ∀ x ∈ l, P x) (h0 : P 0) (k : Nat) : P (l.getD k 0) := by
 rcases Nat.lt_or_ge k l.length with hk | hk
 ·have : l.getD k 0 = l[k] := by simp [List.getD_eq_getElem?_getD, hk]
  rw [this]; exact h _ (List.getElem_mem hk)
 ·have : l.getD k 0 = 0 := by simp [List.getD_eq_getElem?_getD, List.getElem?_eq_none hk]
  rw [this]; exact h0
theorem bytes_getD {l : List Int} (h : ∀ x ∈ l, 0 ≤ x ∧ x ≤ 255) (k : Nat) : 0 ≤ l.getD k 0 ∧ l.getD k 0 ≤ 255 := mem_getD (P := fun x => 0 ≤ x ∧ x ≤ 255) h (by omega) k
/-- integers that an int holds -/
def Fit (l : List Int) : Prop := ∀ x ∈ l, -9223372036854775808 ≤ x ∧ x ≤ 9223372036854775807
theorem int_bd {l : List Int} (h : Fit l) (k : Nat) : -9223372036854775808 ≤ l.getD k 0 ∧ l.getD k 0 ≤ 9223372036854775807 := mem_getD (P := fun x => -9223372036854775808 ≤ x ∧ x ≤ 9223372036854775807) h (by omega) k
theorem take_snocD {α : Type} (l : List α) (k : Nat) (z : α) (h : k < l.length) : l.take (k + 1) = l.take k ++ [l.getD k z] := by
 rw [List.take_succ_eq_append_getElem h]; simp [List.getD_eq_getElem?_getD, h]
/-- one step of the digest -/
def stepB (d b : Int) : Int := IntKind.u64.wrap (bits .xor .u64 d b * 1099511628211)
def sumB (d : Int) (l : List Int) : Int := l.foldl stepB d
theorem sumB_take_succ (d : Int) (l : List Int) (k : Nat) (h : k < l.length) : sumB d (l.take (k + 1)) = stepB (sumB d (l.take k)) (l.getD k 0) := by
 rw [List.take_succ_eq_append_getElem h, sumB, List.foldl_append]; simp [sumB, List.getD_eq_getElem?_getD, h]
set_option maxHeartbeats 1000000 in
theorem add_any (g : Nat) (A : Option Addr) (c : Nat) (l : List Int) (d : Int) (w : World) (hl : IntsAt w A .u8 l) (hn : l.length ≤ 9223372036854775807) (hb : ∀ i, 0 ≤ l.getD i 0 ∧ l.getD i 0 ≤ 255)
  (hg : w.heap[g]? = some (.cells #[.int .u64 d] 43)) :
  Calls Tryz.prog 123 #[.slice A l.length c, .pointer (some ⟨g, 0, none⟩)] w fun e w' => e = .returned (.tuple #[]) ∧ w.grownBy w' (some g) ∧ w'.heap[g]? = some (.cells #[.int .u64 (sumB d l)] 43) := by
 generalize hN : l.length = N at *
 have ⟨Hhl, Hhg, Hhb, HhN⟩ := hid4 hl hg hb hN; clear hl hg hb hN
 go_enter Tryz.func123, Tryz.ntmps123
 go_wp2
 go_loopw [7] (fun i wr => ∃ k : Nat, k ≤ N ∧ i = .int .i64 k ∧ w.grownBy wr (some g) ∧ wr.heap[g]? = some (.cells #[.int .u64 (sumB d (l.take k))] 43)) (fun i _ => N - (intOf i).toNat)
 case atStart => exact ⟨0, by omega, rfl, grown_refl _ _, Hhg.out⟩
 case round =>
  obtain ⟨k, hk, rfl, hgr, hh⟩ := hrel
  by_cases hlt : k < N
  ·obtain ⟨b, off, hA, hbs, hc⟩ := Hhl.out k (by rw [HhN.out]; exact hlt)
   have hB := Hhb.out k
   have hB1 := hB.1
   have hB2 := hB.2
   have hne : b ≠ g := by
    rintro rfl
    have := cell_of_row w b (off + k) _ _ _ Hhg.out
    rw [hc] at this
    match off + k, this with
    | 0, h => simp at h
   have hc2 : wr.cell? ⟨b, off + k, none⟩ = some (.int .u8 (l.getD k 0)) := hgr.cell (a := ⟨b, off + k, none⟩) hc (by simpa using hne)
   have hs := sumB_take_succ d l k (by rw [HhN.out]; exact hlt)
   have hd := cell_of_one hh
   have hf := free_of_one hh
   subst hA
   have ⟨Hhgr, Hhh, Hhs, Hhc, HhB, Hhne⟩ := hid6 hgr hh hs hc hB hne; clear hgr hh hs hc hB hne
   generalize l.getD k 0 = x at *
   generalize sumB d (l.take k) = D at *
   go_wp2
   go_roundw
   case rel =>
    refine ⟨k + 1, by omega, by go_num, grown_set Hhgr.out _ _, ?_⟩
    rw [Hhs.out]
    exact one_setCell Hhh.out
   case measure => simp [intOf]; omega
  ·go_wp2
   go_end0
   have : l.take k = l := List.take_of_length_le (by rw [HhN.out]; omega)
   rw [this] at hh
   exact ⟨rfl, hgr, hh⟩
theorem tell_any (g : Nat) (d : Int) (w : World) (hg : w.cell? ⟨g, 0, none⟩ = some (.int .u64 d)) :
  Calls Tryz.prog 124 #[.pointer (some ⟨g, 0, none⟩)] w fun e w' => e = .returned (.int .u64 d) ∧ w = w' := by
 go_enter Tryz.func124, Tryz.ntmps124
 go_wp2
 go_ret
 exact ⟨rfl, rfl⟩
theorem run_any (w : World) :
  Calls Tryz.prog 115 #[] w fun e w' => e = .returned (.tuple #[.func (.func 123) #[] #[.pointer (some ⟨w.heap.size, 0, none⟩)], .func (.func 124) #[] #[.pointer (some ⟨w.heap.size, 0, none⟩)]]) ∧
   w' = w.alloc (.cells #[.int .u64 14695981039346656037] 43) := by
 have hmf : ∀ (fn : Fn) (first cap : Array Value) (w : World), (Instr.makeFunc fn first cap).run Tryz.prog w = .ok (.func fn first cap) w := fun _ _ _ _ => rfl
 go_enter Tryz.func115, Tryz.ntmps115
 go_wp2
 go_ret2
 exact ⟨rfl, rfl⟩
set_option maxHeartbeats 1000000 in
theorem digSum_any (A : Option Addr) (c : Nat) (l : List Int) (w : World) (hl : IntsAt w A .u8 l) (hn : l.length ≤ 9223372036854775807) (hb : ∀ i, 0 ≤ l.getD i 0 ∧ l.getD i 0 ≤ 255) :
  Calls Tryz.prog 113 #[.slice A l.length c] w fun e w' => e = .returned (.int .u64 (sumB 14695981039346656037 l)) ∧ Below w.heap.size w w' := by
 have ⟨Hhl, Hhb⟩ := hid2 hl hb; clear hl hb
 go_enter Tryz.func113, Tryz.ntmps113
 go_wp2_with fail
 refine (run_any _).mono ?_; rintro e w1 ⟨rfl, rfl⟩
 go_wp2_with fail
 refine (add_any w.heap.size A c l 14695981039346656037 _ (Hhl.out.alloc _) hn Hhb.out (newAt rfl)).mono ?_
 rintro e w2 ⟨rfl, hg2, hh2⟩
 have hd := cell_of_one hh2
 have ⟨Hhg2, Hhh2⟩ := hid2 hg2 hh2; clear hg2 hh2
 go_wp2_with fail
 refine (tell_any _ _ _ hd).mono ?_
 rintro e w3 ⟨rfl, rfl⟩
 go_wp2_with fail
 go_ret
 exact ⟨rfl, ((Below.refl _ _).alloc (Nat.le_refl _) _).trans (below_of_grown Hhg2.out (by simp) (Nat.le_refl _))⟩
theorem stepB_in (d b : Int) : 0 ≤ stepB d b ∧ stepB d b ≤ 18446744073709551615 := by
 unfold stepB; rw [IntKind.wrap_u64]; omega
theorem sumB_in (d : Int) (h : 0 ≤ d ∧ d ≤ 18446744073709551615) (l : List Int) : 0 ≤ sumB d l ∧ sumB d l ≤ 18446744073709551615 := by
 induction l generalizing d with
 | nil => exact h
 | cons x r ih => exact ih (stepB d x) (stepB_in d x)
theorem sumB_append (d : Int) (l m : List Int) : sumB d (l ++ m) = sumB (sumB d l) m := by simp [sumB]
/-- the bytes of a number, the highest one first -/
def hi8 (d : Int) : List Int := (List.range 8).map fun i => d / 2 ^ (56 - 8 * i) % 256
theorem hi8_len (d : Int) : (hi8 d).length = 8 := by simp [hi8]
theorem hi8_get (d : Int) (k : Nat) (h : k < 8) : (hi8 d).getD k 0 = d / 2 ^ (56 - 8 * k) % 256 := by
 simp [hi8, List.getD_eq_getElem?_getD, h]
theorem hi8_bytes (d : Int) : ∀ x ∈ hi8 d, 0 ≤ x ∧ x ≤ 255 := fun x hx => by
 simp only [hi8, List.mem_map] at hx
 obtain ⟨i, _, rfl⟩ := hx
 omega
/-- the text of an integer, as a string and as bytes -/
def txt (n : Int) : ByteArray := ⟨(Lib.itoa n).toArray⟩
def decB (n : Int) : List Int := (Lib.itoa n).map fun b => (b.toNat : Int)
theorem txt_size (n : Int) : (txt n).size = (decB n).length := by simp [txt, decB, ByteArray.size]
theorem decDigits_mem : ∀ (k u : Nat), u < k → ∀ b ∈ Lib.decDigits u, 48 ≤ b.toNat ∧ b.toNat ≤ 57
 | 0, u, h, _, _ => by omega
 | k + 1, u, h, b, hb => by
  rw [Lib.decDigits] at hb
  have one : ∀ d : Nat, d < 10 → ∀ c : UInt8, c ∈ [UInt8.ofNat (48 + d)] → 48 ≤ c.toNat ∧ c.toNat ≤ 57 := fun d hd c hc => by
   have e : c = UInt8.ofNat (48 + d) := by simpa using hc
   have e2 : c.toNat = 48 + d := by rw [e]; simp; omega
   omega
  split at hb
  ·exact one u (by omega) b hb
  ·rcases List.mem_append.1 hb with h1 | h1
   ·exact decDigits_mem k (u / 10) (by omega) b h1
   ·exact one (u % 10) (by omega) b h1
theorem itoa_mem (n : Int) : ∀ b ∈ Lib.itoa n, 45 ≤ b.toNat ∧ b.toNat ≤ 57 := fun b hb => by
 rw [Lib.itoa] at hb
 split at hb
 ·rcases List.mem_cons.1 hb with rfl | h1
  ·decide
  ·have := decDigits_mem _ _ (Nat.lt_succ_self _) b h1; omega
 ·have := decDigits_mem _ _ (Nat.lt_succ_self _) b hb; omega
theorem decB_mem (n : Int) : ∀ x ∈ decB n, 45 ≤ x ∧ x ≤ 57 := fun x hx => by
 simp only [decB, List.mem_map] at hx
 obtain ⟨b, hb, rfl⟩ := hx
 have := itoa_mem n b hb; omega
theorem decB_get (n : Int) (k : Nat) (h : k < (txt n).size) : (decB n).getD k 0 = (((txt n)[k]'h).toNat : Int) := by
 have h2 : k < (Lib.itoa n).length := by simpa [txt, ByteArray.size] using h
 simp [decB, List.getD_eq_getElem?_getD, h2, txt]
 rfl
theorem txt_ascii (n : Int) (k : Nat) (h : k < (txt n).size) : ((txt n)[k]'h).toNat < 128 := by
 have h1 := decB_get n k h
 have h2 : k < (decB n).length := by rw [← txt_size]; exact h
 have h3 := decB_mem n _ (show (decB n).getD k 0 ∈ decB n by simp [List.getD_eq_getElem?_getD, h2])
 omega
/-- the texts of integers, each with a blank behind it -/
def wordsB (l : List Int) : List Int := l.flatMap fun n => decB n ++ [32]
theorem wordsB_snoc (l : List Int) (k : Nat) (h : k < l.length) : wordsB (l.take (k + 1)) = wordsB (l.take k) ++ decB (l.getD k 0) ++ [32] := by
 rw [take_snocD l k 0 h]; simp [wordsB]
def textB (d : Int) (l : List Int) : List Int := hi8 d ++ wordsB l
/-- Next, Chain -/
def nextB (d : Int) (l : List Int) : Int := sumB 14695981039346656037 (textB d l)
theorem sumB_ok (l : List Int) : 0 ≤ sumB 14695981039346656037 l ∧ sumB 14695981039346656037 l ≤ 18446744073709551615 := sumB_in _ (by omega) l
theorem nextB_in (d : Int) (l : List Int) : 0 ≤ nextB d l ∧ nextB d l ≤ 18446744073709551615 := sumB_ok _
end Go.Proofs.YtclgncaghiinhaaGreatDoor
section
namespace Go.Proofs
open Go.Shelf
def Tryz.laysM246_ren : Go.Shelf.Ren := ⟨fun | 246 => 132 | 283 => 138 | 284 => 139 | 285 => 140 | 286 => 141 | 129 => 145 | 317 => 144 | 318 => 146 | 319 => 147 | 320 => 148 | 337 => 150 | 338 => 151 | n => n, fun | 2 => 2 | 3 => 3 | 9 => 9 | 4 => 4 | 171 => 173 | 0 => 0 | 53 => 43 | 37 => 161 | 5 => 5 | 173 => 176 | 212 => 180 | 51 => 51 | 20 => 20 | 213 => 181 | 46 => 170 | 232 => 185 | 233 => 186 | n => n, fun | 17 => 0 | 18 => 1 | 19 => 2 | n => n⟩
def Tryz.laysM243_ren : Go.Shelf.Ren := ⟨fun | 243 => 125 | 246 => 132 | 283 => 138 | 284 => 139 | 285 => 140 | 286 => 141 | 129 => 145 | 317 => 144 | 318 => 146 | 319 => 147 | 320 => 148 | 337 => 150 | 338 => 151 | n => n, fun | 3 => 3 | 9 => 9 | 2 => 2 | 4 => 4 | 171 => 173 | 0 => 0 | 53 => 43 | 37 => 161 | 5 => 5 | 173 => 176 | 212 => 180 | 51 => 51 | 20 => 20 | 213 => 181 | 46 => 170 | 232 => 185 | 233 => 186 | n => n, fun | 17 => 0 | 18 => 1 | 19 => 2 | n => n⟩
def Tryz.laysM171_ren : Go.Shelf.Ren := ⟨fun | 171 => 116 | 243 => 125 | 246 => 132 | 283 => 138 | 284 => 139 | 285 => 140 | 286 => 141 | 129 => 145 | 317 => 144 | 318 => 146 | 319 => 147 | 320 => 148 | 337 => 150 | 338 => 151 | n => n, fun | 3 => 3 | 9 => 9 | 2 => 2 | 4 => 4 | 171 => 173 | 0 => 0 | 53 => 43 | 37 => 161 | 5 => 5 | 173 => 176 | 212 => 180 | 51 => 51 | 20 => 20 | 213 => 181 | 46 => 170 | 232 => 185 | 233 => 186 | n => n, fun | 17 => 0 | 18 => 1 | 19 => 2 | n => n⟩
theorem Tryz.laysM171 : Go.Proofs.LaysM.n171 Tryz.prog Tryz.laysM171_ren := {
 mixed := by kernel_rfl
 f129 := Tryz.func145.trans (congrArg some (by kernel_rfl))
 f171 := Tryz.func116.trans (congrArg some (by kernel_rfl))
 f243 := Tryz.func125.trans (congrArg some (by kernel_rfl))
 f246 := Tryz.func132.trans (congrArg some (by kernel_rfl))
 f283 := Tryz.func138.trans (congrArg some (by kernel_rfl))
 f284 := Tryz.func139.trans (congrArg some (by kernel_rfl))
 f285 := Tryz.func140.trans (congrArg some (by kernel_rfl))
 f286 := Tryz.func141.trans (congrArg some (by kernel_rfl))
 f317 := Tryz.func144.trans (congrArg some (by kernel_rfl))
 f318 := Tryz.func146.trans (congrArg some (by kernel_rfl))
 f319 := Tryz.func147.trans (congrArg some (by kernel_rfl))
 f320 := Tryz.func148.trans (congrArg some (by kernel_rfl))
 f337 := Tryz.func150.trans (congrArg some (by kernel_rfl))
 f338 := Tryz.func151.trans (congrArg some (by kernel_rfl))
 t0 := Tryz.underlying0
 a0 := Tryz.isAgg0
 z0 := Tryz.sizeOf0
 v0 := Tryz.zeroValue0
 t2 := Tryz.underlying2
 a2 := Tryz.isAgg2
 z2 := Tryz.sizeOf2
 v2 := Tryz.zeroValue2
 t3 := Tryz.underlying3
 a3 := Tryz.isAgg3
 z3 := Tryz.sizeOf3
 v3 := Tryz.zeroValue3
 t4 := Tryz.underlying4
 a4 := Tryz.isAgg4
 z4 := Tryz.sizeOf4
 v4 := Tryz.zeroValue4
 t5 := Tryz.underlying5
 a5 := Tryz.isAgg5
 z5 := Tryz.sizeOf5
 v5 := Tryz.zeroValue5
 t9 := Tryz.underlying9
 a9 := Tryz.isAgg9
 z9 := Tryz.sizeOf9
 v9 := Tryz.zeroValue9
 t20 := Tryz.underlying20
 a20 := Tryz.isAgg20
 z20 := Tryz.sizeOf20
 v20 := Tryz.zeroValue20
 t37 := Tryz.underlying161
 a37 := Tryz.isAgg161
 z37 := Tryz.sizeOf161
 v37 := Tryz.zeroValue161
 t46 := Tryz.underlying170
 a46 := Tryz.isAgg170
 z46 := Tryz.sizeOf170
 v46 := Tryz.zeroValue170
 t51 := Tryz.underlying51
 a51 := Tryz.isAgg51
 z51 := Tryz.sizeOf51
 v51 := Tryz.zeroValue51
 t53 := Tryz.underlying43
 a53 := Tryz.isAgg43
 z53 := Tryz.sizeOf43
 v53 := Tryz.zeroValue43
 t171 := Tryz.underlying173
 a171 := Tryz.isAgg173
 z171 := Tryz.sizeOf173
 v171 := Tryz.zeroValue173
 t173 := Tryz.underlying176
 a173 := Tryz.isAgg176
 z173 := Tryz.sizeOf176
 v173 := Tryz.zeroValue176
 t212 := Tryz.underlying180
 a212 := Tryz.isAgg180
 z212 := Tryz.sizeOf180
 v212 := Tryz.zeroValue180
 t213 := Tryz.underlying181
 a213 := Tryz.isAgg181
 z213 := Tryz.sizeOf181
 t232 := Tryz.underlying185
 a232 := Tryz.isAgg185
 z232 := Tryz.sizeOf185
 v232 := Tryz.zeroValue185
 t233 := Tryz.underlying186
 a233 := Tryz.isAgg186
 z233 := Tryz.sizeOf186
 v233 := Tryz.zeroValue186
 g17 := by kernel_rfl
 g18 := by kernel_rfl
 g19 := by kernel_rfl
 i0 := by kernel_rfl
 i2 := by kernel_rfl
 i3 := by kernel_rfl
 i4 := by kernel_rfl
 i5 := by kernel_rfl
 i9 := by kernel_rfl
 i20 := by kernel_rfl
 i37 := by kernel_rfl
 i46 := by kernel_rfl
 i51 := by kernel_rfl
 i53 := by kernel_rfl
 i171 := by kernel_rfl
 i173 := by kernel_rfl
 i212 := by kernel_rfl
 i232 := by kernel_rfl
 i233 := by kernel_rfl
 m17 := by kernel_rfl
 m18 := by kernel_rfl
 m19 := by kernel_rfl }
open Go.RowKit Go.Sort Go.Lib in
theorem Tryz.strconv_Itoa (n : Int) (h0 : -9223372036854775808 ≤ n) (h1 : n ≤ 9223372036854775807) (w : World) (htab : Lib.TabIs Tryz.prog w "internal/strconv.uint64pow10" .u64 Lib.pow10Tab) :
  Calls Tryz.prog 116 #[.int .i64 n] w fun e w' => e = .returned (.string ⟨(Lib.itoa n).toArray⟩) ∧ ∃ k os, w' = grow (w.drewN k) os := Any.strconv_Itoa Tryz.laysM171 n h0 h1 w htab
def Tryz.lays107_ren : Go.Shelf.Ren := ⟨fun | 107 => 118 | 108 => 128 | n => n, fun | 28 => 42 | 3 => 3 | 4 => 4 | 0 => 0 | n => n, fun | n => n⟩
theorem Tryz.lays107 : Go.Proofs.Lays.n107 Tryz.prog Tryz.lays107_ren := {
 mixed := by kernel_rfl
 f107 := Tryz.func118.trans (congrArg some (by kernel_rfl))
 f108 := Tryz.func128.trans (congrArg some (by kernel_rfl))
 t0 := Tryz.underlying0
 a0 := Tryz.isAgg0
 z0 := Tryz.sizeOf0
 v0 := Tryz.zeroValue0
 t3 := Tryz.underlying3
 a3 := Tryz.isAgg3
 z3 := Tryz.sizeOf3
 v3 := Tryz.zeroValue3
 t4 := Tryz.underlying4
 a4 := Tryz.isAgg4
 z4 := Tryz.sizeOf4
 v4 := Tryz.zeroValue4
 t28 := Tryz.underlying42
 a28 := Tryz.isAgg42
 z28 := Tryz.sizeOf42
 v28 := Tryz.zeroValue42 }
open Go.Lib in
theorem Tryz.slices_Contains_int (b off n c : Nat) (zs : List Int) (x : Int) (w : World) (hz : n ≤ zs.length) (hbig : n ≤ 9223372036854775807) (hc : ∀ j, j < zs.length → w.cell? ⟨b, off + j, none⟩ = some (.int .i64 (zs.getD j 0))) :
  Calls Tryz.prog 118 #[.slice (some ⟨b, off, none⟩) n c, .int .i64 x] w fun e w' => e = .returned (.bool ((zs.take n).contains x)) ∧ w' = w := Any.slices_Contains_int Tryz.lays107 b off n c zs x w hz hbig hc
open Go.Lib in
theorem Tryz.slices_Contains_int_empty (a : Option Addr) (c : Nat) (x : Int) (w : World) :
  Calls Tryz.prog 118 #[.slice a 0 c, .int .i64 x] w fun e w' => e = .returned (.bool false) ∧ w' = w := Any.slices_Contains_int_empty Tryz.lays107 a c x w
def Tryz.laysNm215_ren : Go.Shelf.Ren := ⟨fun | 15 => 80 | n => n, fun | 22 => 42 | 3 => 3 | 4 => 4 | n => n, fun | n => n⟩
theorem Tryz.laysNm215 : Go.Proofs.Lays2.n15 Tryz.prog Tryz.laysNm215_ren := {
 mixed := by kernel_rfl
 f15 := Tryz.func80.trans (congrArg some (by kernel_rfl))
 t3 := Tryz.underlying3
 a3 := Tryz.isAgg3
 z3 := Tryz.sizeOf3
 v3 := Tryz.zeroValue3
 t4 := Tryz.underlying4
 a4 := Tryz.isAgg4
 z4 := Tryz.sizeOf4
 v4 := Tryz.zeroValue4
 t22 := Tryz.underlying42
 a22 := Tryz.isAgg42
 z22 := Tryz.sizeOf42
 v22 := Tryz.zeroValue42
 i3 := by kernel_rfl }
open Go.RowKit Go.Lib in
theorem Tryz.slices_Clone_int (b off n c : Nat) (zs : List Int) (w : World) (hz : n ≤ zs.length) (hbig : n * 8 ≤ 140737488355328) (hc : ∀ j, j < zs.length → w.cell? ⟨b, off + j, none⟩ = some (.int .i64 (zs.getD j 0))) :
  Calls Tryz.prog 80 #[.slice (some ⟨b, off, none⟩) n c] w fun e w' => ∃ v', e = .returned v' ∧ w'.ownsRow w.heap.size 3 1 v' n ((zs.take n).map (Value.int .i64)) ∧ v' ≠ .slice none 0 0 ∧ Below w.heap.size w w' := Any.slices_Clone_int Tryz.laysNm215 b off n c zs w hz hbig hc
open Go.RowKit Go.Lib in
theorem Tryz.slices_Clone_int_nil (n c : Nat) (w : World) :
  Calls Tryz.prog 80 #[.slice none n c] w fun e w' => e = .returned (.slice none 0 0) ∧ w' = w := Any.slices_Clone_int_nil Tryz.laysNm215 n c w
open Go.RowKit Go.Lib in
theorem Tryz.slices_Clone_int_zero (a : Addr) (c : Nat) (w : World) :
  Calls Tryz.prog 80 #[.slice (some a) 0 c] w fun e w' => ∃ v', e = .returned v' ∧ w'.ownsRow w.heap.size 3 1 v' 0 [] ∧ v' ≠ .slice none 0 0 ∧ Below w.heap.size w w' := Any.slices_Clone_int_zero Tryz.laysNm215 a c w
def Tryz.laysNm225_ren : Go.Shelf.Ren := ⟨fun | 25 => 129 | 31 => 134 | 32 => 135 | 37 => 142 | n => n, fun | 22 => 42 | 3 => 3 | 4 => 4 | 40 => 170 | 0 => 0 | n => n, fun | n => n⟩
theorem Tryz.laysNm225 : Go.Proofs.Lays2.n25 Tryz.prog Tryz.laysNm225_ren := {
 mixed := by kernel_rfl
 f25 := Tryz.func129.trans (congrArg some (by kernel_rfl))
 f31 := Tryz.func134.trans (congrArg some (by kernel_rfl))
 f32 := Tryz.func135.trans (congrArg some (by kernel_rfl))
 f37 := Tryz.func142.trans (congrArg some (by kernel_rfl))
 t0 := Tryz.underlying0
 a0 := Tryz.isAgg0
 z0 := Tryz.sizeOf0
 v0 := Tryz.zeroValue0
 t3 := Tryz.underlying3
 a3 := Tryz.isAgg3
 z3 := Tryz.sizeOf3
 v3 := Tryz.zeroValue3
 t4 := Tryz.underlying4
 a4 := Tryz.isAgg4
 z4 := Tryz.sizeOf4
 v4 := Tryz.zeroValue4
 t22 := Tryz.underlying42
 a22 := Tryz.isAgg42
 z22 := Tryz.sizeOf42
 v22 := Tryz.zeroValue42
 t40 := Tryz.underlying170
 a40 := Tryz.isAgg170
 z40 := Tryz.sizeOf170
 v40 := Tryz.zeroValue170 }
open Go.RowKit Go.Lib in
theorem Tryz.slices_BinarySearch_int (b off n c : Nat) (zs : List Int) (x : Int) (w : World) (hz : n ≤ zs.length) (hbig : n < 4611686018427387904) (hc : ∀ j, j < zs.length → w.cell? ⟨b, off + j, none⟩ = some (.int .i64 (zs.getD j 0))) (hs : (zs.take n).Pairwise (· ≤ ·)) :
  Calls Tryz.prog 129 #[.slice (some ⟨b, off, none⟩) n c, .int .i64 x] w fun e w' => e = .returned (.tuple #[.int .i64 ((zs.take n).countP (· < x) : Nat), .bool ((zs.take n).contains x)]) ∧ ∃ q, w' = w.drewN q := Any.slices_BinarySearch_int Tryz.laysNm225 b off n c zs x w hz hbig hc hs
open Go.RowKit Go.Lib in
theorem Tryz.slices_BinarySearch_int_empty (a : Option Addr) (c : Nat) (x : Int) (w : World) :
  Calls Tryz.prog 129 #[.slice a 0 c, .int .i64 x] w fun e w' => e = .returned (.tuple #[.int .i64 0, .bool false]) ∧ w' = w := Any.slices_BinarySearch_int_empty Tryz.laysNm225 a c x w
end Go.Proofs
end
