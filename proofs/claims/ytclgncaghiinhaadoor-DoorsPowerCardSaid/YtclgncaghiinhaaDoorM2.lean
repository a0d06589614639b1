/- The contracts of library functions at this translation, laid by the kit's shelf: no condition beyond those that each one names. -/
import Derived.Laws.BitsAllLaws
import Derived.Lib.ItoaNum
import Derived.Lib.ItoaLen
import Derived.Shelf.Small.Wraps
import Derived.Shelf.Strconv.Itoa0
import Derived.Shelf.Strconv.Itoa1
import Derived.Shelf.LaysM
import Derived.Shelf.Strconv.Itoa2
import Derived.Shelf.Strconv.Itoa3
import Derived.Shelf.Slices.Turned
import Derived.Shelf.Slices.Reverse
import Derived.Ground.Names2Prog
import Derived.Shelf.Slices.Clone
import Derived.Shelf.Slices.SearchI
import Derived.Shelf.Slices.Cells
import Derived.Shelf.Slices.Empties
import Derived.Test.YtclgncaghiinhaaDoorProg
import Derived.Test.YtclgncaghiinhaaDoorM1
set_option linter.unusedSimpArgs false
set_option linter.unusedVariables false
set_option maxRecDepth 100000
namespace Go.Proofs.YtclgncaghiinhaaDoor
open Go.RowKit
theorem own_lit {w : World} {base : Nat} {E : TypeId} {k : IntKind} (l : List Int) (hb : base ≤ w.heap.size) (hl : l.length ≤ 1000) (n : Nat) (hn : w.heap.size = n) :
    OwnInts (w.alloc (.cells (l.map (Value.int k)).toArray E)) base E k (some ⟨n, 0, none⟩) l.length l := by
  subst hn
  have := World.ownsRow_lit (base := base) (e := E) (size := 1) w (l.map (Value.int k)).toArray l.length hb (by unfold maxLen; omega) (by simp)
  simpa [OwnInts] using this
theorem ints_lit {w : World} {E : TypeId} {k : IntKind} (l : List Int) (n : Nat) (hn : w.heap.size = n) : IntsAt (w.alloc (.cells (l.map (Value.int k)).toArray E)) (some ⟨n, 0, none⟩) k l := fun i hi => by
  subst hn
  refine ⟨w.heap.size, 0, rfl, by simp, ?_⟩
  rw [cell_of_row _ _ _ _ _ _ (heap_alloc_new w _)]
  simp [List.getD_eq_getElem?_getD, hi]
theorem mem_getD {P : Int → Prop} {l : List Int} (h : ∀ x ∈ l, P x) (h0 : P 0) (k : Nat) : P (l.getD k 0) := by
  rcases Nat.lt_or_ge k l.length with hk | hk
  · have : l.getD k 0 = l[k] := by simp [List.getD_eq_getElem?_getD, hk]
    rw [this]; exact h _ (List.getElem_mem hk)
  · have : l.getD k 0 = 0 := by simp [List.getD_eq_getElem?_getD, List.getElem?_eq_none hk]
    rw [this]; exact h0
theorem bytes_getD {l : List Int} (h : ∀ x ∈ l, 0 ≤ x ∧ x ≤ 255) (k : Nat) : 0 ≤ l.getD k 0 ∧ l.getD k 0 ≤ 255 := mem_getD (P := fun x => 0 ≤ x ∧ x ≤ 255) h (by omega) k
/-- integers that an int holds -/
def Fit (l : List Int) : Prop := ∀ x ∈ l, -9223372036854775808 ≤ x ∧ x ≤ 9223372036854775807
theorem int_bd {l : List Int} (h : Fit l) (k : Nat) : -9223372036854775808 ≤ l.getD k 0 ∧ l.getD k 0 ≤ 9223372036854775807 := mem_getD (P := fun x => -9223372036854775808 ≤ x ∧ x ≤ 9223372036854775807) h (by omega) k
theorem take_snocD {α : Type} (l : List α) (k : Nat) (z : α) (h : k < l.length) : l.take (k + 1) = l.take k ++ [l.getD k z] := by
  rw [List.take_succ_eq_append_getElem h]; simp [List.getD_eq_getElem?_getD, h]
/-- one step of the digest -/
def stepB (d b : Int) : Int := IntKind.u64.wrap (bits .xor .u64 d b * 1099511628211)
def sumB (d : Int) (l : List Int) : Int := l.foldl stepB d
theorem sumB_take_succ (d : Int) (l : List Int) (k : Nat) (h : k < l.length) : sumB d (l.take (k + 1)) = stepB (sumB d (l.take k)) (l.getD k 0) := by
  rw [List.take_succ_eq_append_getElem h, sumB, List.foldl_append]; simp [sumB, List.getD_eq_getElem?_getD, h]
set_option maxHeartbeats 1000000 in
theorem add_any (g : Nat) (A : Option Addr) (c : Nat) (l : List Int) (d : Int) (w : World) (hl : IntsAt w A .u8 l) (hn : l.length ≤ 9223372036854775807) (hb : ∀ i, 0 ≤ l.getD i 0 ∧ l.getD i 0 ≤ 255)
    (hg : w.heap[g]? = some (.cells #[.int .u64 d] 38)) :
    Calls Tryd.prog 75 #[.slice A l.length c, .pointer (some ⟨g, 0, none⟩)] w fun e w' => e = .returned (.tuple #[]) ∧ w.grownBy w' (some g) ∧ w'.heap[g]? = some (.cells #[.int .u64 (sumB d l)] 38) := by
  generalize hN : l.length = N at *
  have ⟨H_hl, H_hg, H_hb, H_hN⟩ := hid4 hl hg hb hN; clear hl hg hb hN
  go_enter Tryd.func75, Tryd.ntmps75
  go_wp2
  go_loopw [7] (fun i wr => ∃ k : Nat, k ≤ N ∧ i = .int .i64 k ∧ w.grownBy wr (some g) ∧ wr.heap[g]? = some (.cells #[.int .u64 (sumB d (l.take k))] 38)) (fun i _ => N - (intOf i).toNat)
  case atStart => exact ⟨0, by omega, rfl, grown_refl _ _, H_hg.out⟩
  case round =>
    obtain ⟨k, hk, rfl, hgr, hh⟩ := hrel
    by_cases hlt : k < N
    · obtain ⟨b, off, hA, hbs, hc⟩ := H_hl.out k (by rw [H_hN.out]; exact hlt)
      have hB := H_hb.out k
      have hB1 := hB.1
      have hB2 := hB.2
      have hne : b ≠ g := by
        rintro rfl
        have := cell_of_row w b (off + k) _ _ _ H_hg.out
        rw [hc] at this
        match off + k, this with
        | 0, h => simp at h
      have hc2 : wr.cell? ⟨b, off + k, none⟩ = some (.int .u8 (l.getD k 0)) := hgr.cell (a := ⟨b, off + k, none⟩) hc (by simpa using hne)
      have hs := sumB_take_succ d l k (by rw [H_hN.out]; exact hlt)
      have hd := cell_of_one hh
      have hf := free_of_one hh
      subst hA
      have ⟨H_hgr, H_hh, H_hs, H_hc, H_hB, H_hne⟩ := hid6 hgr hh hs hc hB hne; clear hgr hh hs hc hB hne
      generalize l.getD k 0 = x at *
      generalize sumB d (l.take k) = D at *
      go_wp2
      go_roundw
      case rel =>
        refine ⟨k + 1, by omega, by go_num, grown_set H_hgr.out _ _, ?_⟩
        rw [H_hs.out]
        exact one_setCell H_hh.out
      case measure => simp [intOf]; omega
    · go_wp2
      go_end0
      have : l.take k = l := List.take_of_length_le (by rw [H_hN.out]; omega)
      rw [this] at hh
      exact ⟨rfl, hgr, hh⟩
theorem tell_any (g : Nat) (d : Int) (w : World) (hg : w.cell? ⟨g, 0, none⟩ = some (.int .u64 d)) :
    Calls Tryd.prog 76 #[.pointer (some ⟨g, 0, none⟩)] w fun e w' => e = .returned (.int .u64 d) ∧ w = w' := by
  go_enter Tryd.func76, Tryd.ntmps76
  go_wp2
  go_ret
  exact ⟨rfl, rfl⟩
theorem run_any (w : World) :
    Calls Tryd.prog 66 #[] w fun e w' => e = .returned (.tuple #[.func (.func 75) #[] #[.pointer (some ⟨w.heap.size, 0, none⟩)], .func (.func 76) #[] #[.pointer (some ⟨w.heap.size, 0, none⟩)]]) ∧
      w' = w.alloc (.cells #[.int .u64 14695981039346656037] 38) := by
  have hmf : ∀ (fn : Fn) (first cap : Array Value) (w : World), (Instr.makeFunc fn first cap).run Tryd.prog w = .ok (.func fn first cap) w := fun _ _ _ _ => rfl
  go_enter Tryd.func66, Tryd.ntmps66
  go_wp2
  go_ret2
  exact ⟨rfl, rfl⟩
set_option maxHeartbeats 1000000 in
theorem digSum_any (A : Option Addr) (c : Nat) (l : List Int) (w : World) (hl : IntsAt w A .u8 l) (hn : l.length ≤ 9223372036854775807) (hb : ∀ i, 0 ≤ l.getD i 0 ∧ l.getD i 0 ≤ 255) :
    Calls Tryd.prog 68 #[.slice A l.length c] w fun e w' => e = .returned (.int .u64 (sumB 14695981039346656037 l)) ∧ Below w.heap.size w w' := by
  have ⟨H_hl, H_hb⟩ := hid2 hl hb; clear hl hb
  go_enter Tryd.func68, Tryd.ntmps68
  go_wp2_with fail
  refine (run_any _).mono ?_; rintro e w1 ⟨rfl, rfl⟩
  go_wp2_with fail
  refine (add_any w.heap.size A c l 14695981039346656037 _ (H_hl.out.alloc _) hn H_hb.out (newAt rfl)).mono ?_
  rintro e w2 ⟨rfl, hg2, hh2⟩
  have hd := cell_of_one hh2
  have ⟨H_hg2, H_hh2⟩ := hid2 hg2 hh2; clear hg2 hh2
  go_wp2_with fail
  refine (tell_any _ _ _ hd).mono ?_
  rintro e w3 ⟨rfl, rfl⟩
  go_wp2_with fail
  go_ret
  exact ⟨rfl, ((Below.refl _ _).alloc (Nat.le_refl _) _).trans (below_of_grown H_hg2.out (by simp) (Nat.le_refl _))⟩
theorem stepB_in (d b : Int) : 0 ≤ stepB d b ∧ stepB d b ≤ 18446744073709551615 := by
  unfold stepB; rw [IntKind.wrap_u64]; omega
theorem sumB_in (d : Int) (h : 0 ≤ d ∧ d ≤ 18446744073709551615) (l : List Int) : 0 ≤ sumB d l ∧ sumB d l ≤ 18446744073709551615 := by
  induction l generalizing d with
  | nil => exact h
  | cons x r ih => exact ih (stepB d x) (stepB_in d x)
theorem sumB_append (d : Int) (l m : List Int) : sumB d (l ++ m) = sumB (sumB d l) m := by simp [sumB]
/-- the bytes of a number, the highest one first -/
def hi8 (d : Int) : List Int := (List.range 8).map fun i => d / 2 ^ (56 - 8 * i) % 256
theorem hi8_len (d : Int) : (hi8 d).length = 8 := by simp [hi8]
theorem hi8_get (d : Int) (k : Nat) (h : k < 8) : (hi8 d).getD k 0 = d / 2 ^ (56 - 8 * k) % 256 := by
  simp [hi8, List.getD_eq_getElem?_getD, h]
theorem hi8_bytes (d : Int) : ∀ x ∈ hi8 d, 0 ≤ x ∧ x ≤ 255 := fun x hx => by
  simp only [hi8, List.mem_map] at hx
  obtain ⟨i, _, rfl⟩ := hx
  omega
/-- the text of an integer, as a string and as bytes -/
def txt (n : Int) : ByteArray := ⟨(Lib.itoa n).toArray⟩
def decB (n : Int) : List Int := (Lib.itoa n).map fun b => (b.toNat : Int)
theorem txt_size (n : Int) : (txt n).size = (decB n).length := by simp [txt, decB, ByteArray.size]
theorem decDigits_mem : ∀ (k u : Nat), u < k → ∀ b ∈ Lib.decDigits u, 48 ≤ b.toNat ∧ b.toNat ≤ 57
  | 0, u, h, _, _ => by omega
  | k + 1, u, h, b, hb => by
    rw [Lib.decDigits] at hb
    have one : ∀ d : Nat, d < 10 → ∀ c : UInt8, c ∈ [UInt8.ofNat (48 + d)] → 48 ≤ c.toNat ∧ c.toNat ≤ 57 := fun d hd c hc => by
      have e : c = UInt8.ofNat (48 + d) := by simpa using hc
      have e2 : c.toNat = 48 + d := by rw [e]; simp; omega
      omega
    split at hb
    · exact one u (by omega) b hb
    · rcases List.mem_append.1 hb with h1 | h1
      · exact decDigits_mem k (u / 10) (by omega) b h1
      · exact one (u % 10) (by omega) b h1
theorem itoa_mem (n : Int) : ∀ b ∈ Lib.itoa n, 45 ≤ b.toNat ∧ b.toNat ≤ 57 := fun b hb => by
  rw [Lib.itoa] at hb
  split at hb
  · rcases List.mem_cons.1 hb with rfl | h1
    · decide
    · have := decDigits_mem _ _ (Nat.lt_succ_self _) b h1; omega
  · have := decDigits_mem _ _ (Nat.lt_succ_self _) b hb; omega
theorem decB_mem (n : Int) : ∀ x ∈ decB n, 45 ≤ x ∧ x ≤ 57 := fun x hx => by
  simp only [decB, List.mem_map] at hx
  obtain ⟨b, hb, rfl⟩ := hx
  have := itoa_mem n b hb; omega
theorem decB_get (n : Int) (k : Nat) (h : k < (txt n).size) : (decB n).getD k 0 = (((txt n)[k]'h).toNat : Int) := by
  have h2 : k < (Lib.itoa n).length := by simpa [txt, ByteArray.size] using h
  simp [decB, List.getD_eq_getElem?_getD, h2, txt]
  rfl
theorem txt_ascii (n : Int) (k : Nat) (h : k < (txt n).size) : ((txt n)[k]'h).toNat < 128 := by
  have h1 := decB_get n k h
  have h2 : k < (decB n).length := by rw [← txt_size]; exact h
  have h3 := decB_mem n _ (show (decB n).getD k 0 ∈ decB n by simp [List.getD_eq_getElem?_getD, h2])
  omega
/-- the texts of integers, each with a blank behind it -/
def wordsB (l : List Int) : List Int := l.flatMap fun n => decB n ++ [32]
theorem wordsB_snoc (l : List Int) (k : Nat) (h : k < l.length) : wordsB (l.take (k + 1)) = wordsB (l.take k) ++ decB (l.getD k 0) ++ [32] := by
  rw [take_snocD l k 0 h]; simp [wordsB]
def textB (d : Int) (l : List Int) : List Int := hi8 d ++ wordsB l
/-- Next, Chain -/
def nextB (d : Int) (l : List Int) : Int := sumB 14695981039346656037 (textB d l)
theorem sumB_ok (l : List Int) : 0 ≤ sumB 14695981039346656037 l ∧ sumB 14695981039346656037 l ≤ 18446744073709551615 := sumB_in _ (by omega) l
theorem nextB_in (d : Int) (l : List Int) : 0 ≤ nextB d l ∧ nextB d l ≤ 18446744073709551615 := sumB_ok _
end Go.Proofs.YtclgncaghiinhaaDoor
section
namespace Go.Proofs
open Go.Shelf
def Tryd.laysM246_ren : Go.Shelf.Ren := ⟨fun | 246 => 83 | 283 => 89 | 284 => 90 | 285 => 91 | 286 => 92 | 129 => 96 | 317 => 95 | 318 => 97 | 319 => 98 | 320 => 99 | 337 => 101 | 338 => 102 | n => n, fun | 2 => 2 | 3 => 3 | 9 => 9 | 4 => 4 | 171 => 143 | 0 => 0 | 53 => 38 | 37 => 132 | 5 => 5 | 173 => 146 | 212 => 150 | 51 => 151 | 20 => 20 | 213 => 152 | 46 => 140 | 232 => 156 | 233 => 157 | n => n, fun | 17 => 0 | 18 => 1 | 19 => 2 | n => n⟩
def Tryd.laysM243_ren : Go.Shelf.Ren := ⟨fun | 243 => 77 | 246 => 83 | 283 => 89 | 284 => 90 | 285 => 91 | 286 => 92 | 129 => 96 | 317 => 95 | 318 => 97 | 319 => 98 | 320 => 99 | 337 => 101 | 338 => 102 | n => n, fun | 3 => 3 | 9 => 9 | 2 => 2 | 4 => 4 | 171 => 143 | 0 => 0 | 53 => 38 | 37 => 132 | 5 => 5 | 173 => 146 | 212 => 150 | 51 => 151 | 20 => 20 | 213 => 152 | 46 => 140 | 232 => 156 | 233 => 157 | n => n, fun | 17 => 0 | 18 => 1 | 19 => 2 | n => n⟩
def Tryd.laysM171_ren : Go.Shelf.Ren := ⟨fun | 171 => 67 | 243 => 77 | 246 => 83 | 283 => 89 | 284 => 90 | 285 => 91 | 286 => 92 | 129 => 96 | 317 => 95 | 318 => 97 | 319 => 98 | 320 => 99 | 337 => 101 | 338 => 102 | n => n, fun | 3 => 3 | 9 => 9 | 2 => 2 | 4 => 4 | 171 => 143 | 0 => 0 | 53 => 38 | 37 => 132 | 5 => 5 | 173 => 146 | 212 => 150 | 51 => 151 | 20 => 20 | 213 => 152 | 46 => 140 | 232 => 156 | 233 => 157 | n => n, fun | 17 => 0 | 18 => 1 | 19 => 2 | n => n⟩
theorem Tryd.laysM171 : Go.Proofs.LaysM.n171 Tryd.prog Tryd.laysM171_ren := {
  mixed := by kernel_rfl
  f129 := Tryd.func96.trans (congrArg some (by kernel_rfl))
  f171 := Tryd.func67.trans (congrArg some (by kernel_rfl))
  f243 := Tryd.func77.trans (congrArg some (by kernel_rfl))
  f246 := Tryd.func83.trans (congrArg some (by kernel_rfl))
  f283 := Tryd.func89.trans (congrArg some (by kernel_rfl))
  f284 := Tryd.func90.trans (congrArg some (by kernel_rfl))
  f285 := Tryd.func91.trans (congrArg some (by kernel_rfl))
  f286 := Tryd.func92.trans (congrArg some (by kernel_rfl))
  f317 := Tryd.func95.trans (congrArg some (by kernel_rfl))
  f318 := Tryd.func97.trans (congrArg some (by kernel_rfl))
  f319 := Tryd.func98.trans (congrArg some (by kernel_rfl))
  f320 := Tryd.func99.trans (congrArg some (by kernel_rfl))
  f337 := Tryd.func101.trans (congrArg some (by kernel_rfl))
  f338 := Tryd.func102.trans (congrArg some (by kernel_rfl))
  t0 := Tryd.underlying0
  a0 := Tryd.isAgg0
  z0 := Tryd.sizeOf0
  v0 := Tryd.zeroValue0
  t2 := Tryd.underlying2
  a2 := Tryd.isAgg2
  z2 := Tryd.sizeOf2
  v2 := Tryd.zeroValue2
  t3 := Tryd.underlying3
  a3 := Tryd.isAgg3
  z3 := Tryd.sizeOf3
  v3 := Tryd.zeroValue3
  t4 := Tryd.underlying4
  a4 := Tryd.isAgg4
  z4 := Tryd.sizeOf4
  v4 := Tryd.zeroValue4
  t5 := Tryd.underlying5
  a5 := Tryd.isAgg5
  z5 := Tryd.sizeOf5
  v5 := Tryd.zeroValue5
  t9 := Tryd.underlying9
  a9 := Tryd.isAgg9
  z9 := Tryd.sizeOf9
  v9 := Tryd.zeroValue9
  t20 := Tryd.underlying20
  a20 := Tryd.isAgg20
  z20 := Tryd.sizeOf20
  v20 := Tryd.zeroValue20
  t37 := Tryd.underlying132
  a37 := Tryd.isAgg132
  z37 := Tryd.sizeOf132
  v37 := Tryd.zeroValue132
  t46 := Tryd.underlying140
  a46 := Tryd.isAgg140
  z46 := Tryd.sizeOf140
  v46 := Tryd.zeroValue140
  t51 := Tryd.underlying151
  a51 := Tryd.isAgg151
  z51 := Tryd.sizeOf151
  v51 := Tryd.zeroValue151
  t53 := Tryd.underlying38
  a53 := Tryd.isAgg38
  z53 := Tryd.sizeOf38
  v53 := Tryd.zeroValue38
  t171 := Tryd.underlying143
  a171 := Tryd.isAgg143
  z171 := Tryd.sizeOf143
  v171 := Tryd.zeroValue143
  t173 := Tryd.underlying146
  a173 := Tryd.isAgg146
  z173 := Tryd.sizeOf146
  v173 := Tryd.zeroValue146
  t212 := Tryd.underlying150
  a212 := Tryd.isAgg150
  z212 := Tryd.sizeOf150
  v212 := Tryd.zeroValue150
  t213 := Tryd.underlying152
  a213 := Tryd.isAgg152
  z213 := Tryd.sizeOf152
  t232 := Tryd.underlying156
  a232 := Tryd.isAgg156
  z232 := Tryd.sizeOf156
  v232 := Tryd.zeroValue156
  t233 := Tryd.underlying157
  a233 := Tryd.isAgg157
  z233 := Tryd.sizeOf157
  v233 := Tryd.zeroValue157
  g17 := by kernel_rfl
  g18 := by kernel_rfl
  g19 := by kernel_rfl
  i0 := by kernel_rfl
  i2 := by kernel_rfl
  i3 := by kernel_rfl
  i4 := by kernel_rfl
  i5 := by kernel_rfl
  i9 := by kernel_rfl
  i20 := by kernel_rfl
  i37 := by kernel_rfl
  i46 := by kernel_rfl
  i51 := by kernel_rfl
  i53 := by kernel_rfl
  i171 := by kernel_rfl
  i173 := by kernel_rfl
  i212 := by kernel_rfl
  i232 := by kernel_rfl
  i233 := by kernel_rfl
  m17 := by kernel_rfl
  m18 := by kernel_rfl
  m19 := by kernel_rfl }
open Go.RowKit Go.Sort Go.Lib in
theorem Tryd.strconv_Itoa (n : Int) (h0 : -9223372036854775808 ≤ n) (h1 : n ≤ 9223372036854775807) (w : World) (htab : Lib.TabIs Tryd.prog w "internal/strconv.uint64pow10" .u64 Lib.pow10Tab) :
    Calls Tryd.prog 67 #[.int .i64 n] w fun e w' => e = .returned (.string ⟨(Lib.itoa n).toArray⟩) ∧ ∃ k os, w' = grow (w.drewN k) os := Any.strconv_Itoa Tryd.laysM171 n h0 h1 w htab
def Tryd.lays107_ren : Go.Shelf.Ren := ⟨fun | 107 => 71 | 108 => 80 | n => n, fun | 28 => 37 | 3 => 3 | 4 => 4 | 0 => 0 | n => n, fun | n => n⟩
theorem Tryd.lays107 : Go.Proofs.Lays.n107 Tryd.prog Tryd.lays107_ren := {
  mixed := by kernel_rfl
  f107 := Tryd.func71.trans (congrArg some (by kernel_rfl))
  f108 := Tryd.func80.trans (congrArg some (by kernel_rfl))
  t0 := Tryd.underlying0
  a0 := Tryd.isAgg0
  z0 := Tryd.sizeOf0
  v0 := Tryd.zeroValue0
  t3 := Tryd.underlying3
  a3 := Tryd.isAgg3
  z3 := Tryd.sizeOf3
  v3 := Tryd.zeroValue3
  t4 := Tryd.underlying4
  a4 := Tryd.isAgg4
  z4 := Tryd.sizeOf4
  v4 := Tryd.zeroValue4
  t28 := Tryd.underlying37
  a28 := Tryd.isAgg37
  z28 := Tryd.sizeOf37
  v28 := Tryd.zeroValue37 }
open Go.Lib in
theorem Tryd.slices_Contains_int (b off n c : Nat) (zs : List Int) (x : Int) (w : World) (hz : n ≤ zs.length) (hbig : n ≤ 9223372036854775807) (hc : ∀ j, j < zs.length → w.cell? ⟨b, off + j, none⟩ = some (.int .i64 (zs.getD j 0))) :
    Calls Tryd.prog 71 #[.slice (some ⟨b, off, none⟩) n c, .int .i64 x] w fun e w' => e = .returned (.bool ((zs.take n).contains x)) ∧ w' = w := Any.slices_Contains_int Tryd.lays107 b off n c zs x w hz hbig hc
open Go.Lib in
theorem Tryd.slices_Contains_int_empty (a : Option Addr) (c : Nat) (x : Int) (w : World) :
    Calls Tryd.prog 71 #[.slice a 0 c, .int .i64 x] w fun e w' => e = .returned (.bool false) ∧ w' = w := Any.slices_Contains_int_empty Tryd.lays107 a c x w
def Tryd.laysNm215_ren : Go.Shelf.Ren := ⟨fun | 15 => 39 | n => n, fun | 22 => 37 | 3 => 3 | 4 => 4 | n => n, fun | n => n⟩
theorem Tryd.laysNm215 : Go.Proofs.Lays2.n15 Tryd.prog Tryd.laysNm215_ren := {
  mixed := by kernel_rfl
  f15 := Tryd.func39.trans (congrArg some (by kernel_rfl))
  t3 := Tryd.underlying3
  a3 := Tryd.isAgg3
  z3 := Tryd.sizeOf3
  v3 := Tryd.zeroValue3
  t4 := Tryd.underlying4
  a4 := Tryd.isAgg4
  z4 := Tryd.sizeOf4
  v4 := Tryd.zeroValue4
  t22 := Tryd.underlying37
  a22 := Tryd.isAgg37
  z22 := Tryd.sizeOf37
  v22 := Tryd.zeroValue37
  i3 := by kernel_rfl }
open Go.RowKit Go.Lib in
theorem Tryd.slices_Clone_int (b off n c : Nat) (zs : List Int) (w : World) (hz : n ≤ zs.length) (hbig : n * 8 ≤ 140737488355328) (hc : ∀ j, j < zs.length → w.cell? ⟨b, off + j, none⟩ = some (.int .i64 (zs.getD j 0))) :
    Calls Tryd.prog 39 #[.slice (some ⟨b, off, none⟩) n c] w fun e w' => ∃ v', e = .returned v' ∧ w'.ownsRow w.heap.size 3 1 v' n ((zs.take n).map (Value.int .i64)) ∧ v' ≠ .slice none 0 0 ∧ Below w.heap.size w w' := Any.slices_Clone_int Tryd.laysNm215 b off n c zs w hz hbig hc
open Go.RowKit Go.Lib in
theorem Tryd.slices_Clone_int_nil (n c : Nat) (w : World) :
    Calls Tryd.prog 39 #[.slice none n c] w fun e w' => e = .returned (.slice none 0 0) ∧ w' = w := Any.slices_Clone_int_nil Tryd.laysNm215 n c w
open Go.RowKit Go.Lib in
theorem Tryd.slices_Clone_int_zero (a : Addr) (c : Nat) (w : World) :
    Calls Tryd.prog 39 #[.slice (some a) 0 c] w fun e w' => ∃ v', e = .returned v' ∧ w'.ownsRow w.heap.size 3 1 v' 0 [] ∧ v' ≠ .slice none 0 0 ∧ Below w.heap.size w w' := Any.slices_Clone_int_zero Tryd.laysNm215 a c w
def Tryd.laysNm225_ren : Go.Shelf.Ren := ⟨fun | 25 => 81 | 31 => 85 | 32 => 86 | 37 => 93 | n => n, fun | 22 => 37 | 3 => 3 | 4 => 4 | 40 => 140 | 0 => 0 | n => n, fun | n => n⟩
theorem Tryd.laysNm225 : Go.Proofs.Lays2.n25 Tryd.prog Tryd.laysNm225_ren := {
  mixed := by kernel_rfl
  f25 := Tryd.func81.trans (congrArg some (by kernel_rfl))
  f31 := Tryd.func85.trans (congrArg some (by kernel_rfl))
  f32 := Tryd.func86.trans (congrArg some (by kernel_rfl))
  f37 := Tryd.func93.trans (congrArg some (by kernel_rfl))
  t0 := Tryd.underlying0
  a0 := Tryd.isAgg0
  z0 := Tryd.sizeOf0
  v0 := Tryd.zeroValue0
  t3 := Tryd.underlying3
  a3 := Tryd.isAgg3
  z3 := Tryd.sizeOf3
  v3 := Tryd.zeroValue3
  t4 := Tryd.underlying4
  a4 := Tryd.isAgg4
  z4 := Tryd.sizeOf4
  v4 := Tryd.zeroValue4
  t22 := Tryd.underlying37
  a22 := Tryd.isAgg37
  z22 := Tryd.sizeOf37
  v22 := Tryd.zeroValue37
  t40 := Tryd.underlying140
  a40 := Tryd.isAgg140
  z40 := Tryd.sizeOf140
  v40 := Tryd.zeroValue140 }
open Go.RowKit Go.Lib in
theorem Tryd.slices_BinarySearch_int (b off n c : Nat) (zs : List Int) (x : Int) (w : World) (hz : n ≤ zs.length) (hbig : n < 4611686018427387904) (hc : ∀ j, j < zs.length → w.cell? ⟨b, off + j, none⟩ = some (.int .i64 (zs.getD j 0))) (hs : (zs.take n).Pairwise (· ≤ ·)) :
    Calls Tryd.prog 81 #[.slice (some ⟨b, off, none⟩) n c, .int .i64 x] w fun e w' => e = .returned (.tuple #[.int .i64 ((zs.take n).countP (· < x) : Nat), .bool ((zs.take n).contains x)]) ∧ ∃ q, w' = w.drewN q := Any.slices_BinarySearch_int Tryd.laysNm225 b off n c zs x w hz hbig hc hs
open Go.RowKit Go.Lib in
theorem Tryd.slices_BinarySearch_int_empty (a : Option Addr) (c : Nat) (x : Int) (w : World) :
    Calls Tryd.prog 81 #[.slice a 0 c, .int .i64 x] w fun e w' => e = .returned (.tuple #[.int .i64 0, .bool false]) ∧ w' = w := Any.slices_BinarySearch_int_empty Tryd.laysNm225 a c x w
end Go.Proofs
end
