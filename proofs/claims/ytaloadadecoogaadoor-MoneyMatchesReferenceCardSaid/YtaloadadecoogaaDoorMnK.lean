/- Contracts of package money: Text. -/
import Derived.Test.YtaloadadecoogaaDoorMnJ
import Derived.Test.YtaloadadecoogaaDoorMnT
import Derived.Test.YtaloadadecoogaaDoorStr
import Derived.Test.YtaloadadecoogaaDoorDigN
namespace Go.Proofs.YtaloadadecoogaaDoor
set_option linter.unusedSimpArgs false
set_option linter.unusedVariables false
set_option maxRecDepth 100000
open Go.RowKit Go.Maps

theorem infoMU : (Tryd.prog.info? 5).map (fun i => (i.zero, i.size, i.bytes)) = some (some (.int .u8 0), 1, 1) := by kernel_rfl
/-- the error and the text of an amount -/
def tE (n : Int) : Int := if amtB n = true then 0 else 1
def tS (n : Int) : ByteArray := if amtB n = true then mS n else ⟨#[]⟩
theorem cells_dec (n : Int) : Lib.byteCells (Lib.itoa n) = (decB n).map (Value.int .u8) := by simp [Lib.byteCells, decB]
theorem own_of {w : World} {base n : Nat} {E : TypeId} {k : IntKind} {v : Value} {l : List Int} (h : w.ownsRow base E 1 v n (l.map (Value.int k))) (hn : l.length = n) : ∃ A c, v = .slice A n c ∧ OwnInts w base E k A c l := by
  subst hn
  rcases h.2 with ⟨hv, h0⟩ | ⟨g, cap, cur, hv, _⟩
  · exact ⟨none, 0, by rw [hv, h0], by rw [hv, h0] at h; unfold OwnInts; rw [h0]; exact h⟩
  · exact ⟨_, cap, hv, by rw [hv] at h; exact h⟩
theorem appint_any (base n : Nat) (i : Int) (A : Option Addr) (c : Nat) (l : List Int) (w0 w : World) (hi : -9223372036854775808 ≤ i ∧ i ≤ 9223372036854775807) (hn : l.length = n) (hn2 : n ≤ 1000) (ho : OwnInts w base 5 .u8 A c l) (hb : base = w0.heap.size) (hbw : Below base w0 w) (ht : Tab w0) :
    Calls Tryd.prog 35 #[.slice A n c, .int .i64 i, .int .i64 10] w fun e w' => ∃ A' c', e = .returned (.slice A' (n + (decB i).length) c') ∧ OwnInts w' base 5 .u8 A' c' (l ++ decB i) ∧ Below base w w' := by
  subst hn hb
  refine (Tryd.strconv_AppendInt_10 _ _ i hi.1 hi.2 _ _ w ho hbw.size (by omega) (Lib.TabBelow.on (Lib.tabBelow_of_tabIs ht) hbw)).mono ?_
  rintro e w' ⟨v', rfl, ho', hb', _⟩
  rw [cells_dec, ← List.map_append, show (Lib.itoa i).length = (decB i).length by simp [decB]] at ho'
  obtain ⟨A', c', rfl, ho2⟩ := own_of ho' (by simp)
  exact ⟨A', c', rfl, ho2, hb'⟩
theorem ints_new3 (w : World) (k : IntKind) (x y z : Int) (t : TypeId) (n : Nat) (hn : w.heap.size = n) : IntsAt (w.alloc (.cells #[.int k x, .int k y, .int k z] t)) (some ⟨n, 0, none⟩) k [x, y, z] := by
  subst hn
  intro i hi
  refine ⟨w.heap.size, 0, rfl, by simp, ?_⟩
  rw [Nat.zero_add, cell_of_row _ _ _ _ _ _ (heap_alloc_new w _)]
  rcases (show i = 0 ∨ i = 1 ∨ i = 2 by simp at hi; omega) with rfl | rfl | rfl <;> rfl
theorem nums_text (n : Int) (P : List Int) (hP : P = if n < 0 then [45] else []) : strOfNums (P ++ decB ((n.natAbs / 100 : Nat) : Int) ++ [46, 48 + ((n.natAbs / 10 % 10 : Nat) : Int), 48 + ((n.natAbs % 10 : Nat) : Int)]) = mS n := by
  have e1 : ((decB ((n.natAbs / 100 : Nat) : Int)).map fun x => UInt8.ofNat x.toNat) = Lib.decDigits (n.natAbs / 100) := by
    rw [decB, Lib.itoa, if_neg (by omega), Int.toNat_natCast, List.map_map]
    conv => rhs; rw [← List.map_id (Lib.decDigits (n.natAbs / 100))]
    apply List.map_congr_left
    intro b _
    simp
  have e2 : (P.map fun x => UInt8.ofNat x.toNat) = if n < 0 then [45] else [] := by
    rw [hP]; split <;> rfl
  have e3 : (48 + ((n.natAbs / 10 % 10 : Nat) : Int)).toNat = 48 + n.natAbs / 10 % 10 := by omega
  have e4 : (48 + ((n.natAbs % 10 : Nat) : Int)).toNat = 48 + n.natAbs % 10 := by omega
  rw [mS, mT, strOfNums, List.map_append, List.map_append, e1, e2]
  simp only [List.map_cons, List.map_nil, e3, e4]
  rfl
end Go.Proofs.YtaloadadecoogaaDoor
