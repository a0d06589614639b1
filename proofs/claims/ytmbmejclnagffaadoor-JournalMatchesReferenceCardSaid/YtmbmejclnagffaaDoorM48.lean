/- Journals that are right: what their checks answer. -/
import Derived.Test.YtmbmejclnagffaaDoorM46
import Derived.Test.YtmbmejclnagffaaDoorM47
set_option linter.unusedSimpArgs false
set_option linter.unusedVariables false
set_option maxRecDepth 100000
namespace Go.Proofs.YtmbmejclnagffaaDoor
open Go.RowKit
theorem Msgs.pre {w : World} {A : Option Addr} {l m : List Msg} (h : Msgs w A (l ++ m)) : Msgs w A l := fun i z hz => h i z (by
  rw [List.getElem?_append_left (by
    rcases Nat.lt_or_ge i l.length with h1 | h1
    · exact h1
    · rw [List.getElem?_eq_none h1] at hz; cases hz)]; exact hz)
theorem chkE_pub {party sec : Int} (hp : ptyB party = true) (hs : wthB sec 1 = true) : chkE party (pubV sec) = 0 := by
  rw [chkE, if_pos ⟨hp, mem_pub hs⟩]
theorem Jok.chk {ms : List Msg} {h : Hd} {party sec : Int} (hj : Jok ms h party sec) (hp : ptyB party = true) (hs : wthB sec 1 = true) : chkV ms h party (pubV sec) = true := by
  rw [chkV, chkE_pub hp hs, hj.sgd]; rfl
theorem Jok.msg {ms : List Msg} {h : Hd} {party sec : Int} (hj : Jok ms h party sec) : ∀ m ∈ ms, msgB m = true := okL_all (frm_ok hj.frm).2
theorem Jok.len {ms : List Msg} {h : Hd} {party sec : Int} (hj : Jok ms h party sec) : ∀ m ∈ ms, m.a.length ≤ 1000000 := fun m hm => by
  have := msgB_len (hj.msg m hm); omega
theorem use_parts {party sec : Int} {s : Nat} (h : useB party sec s = true) : ptyB party = true ∧ wthB sec 1 = true ∧ s ≤ 20 := by
  simp only [useB, Bool.and_eq_true, decide_eq_true_eq] at h
  exact ⟨h.1.1, h.1.2, h.2⟩
/-- usable, the world grown -/
theorem usableD_any (party sec : Int) (b m c : Nat) (ns : List Nat) (hm : ns.length = m) (hm9 : m ≤ 1000) (hs : ns.sum ≤ 9223372036854775807) (w : World) (hc : ∀ i, i < m → ∃ Ai ci, w.cell? ⟨b, i, none⟩ = some (.slice Ai (ns.getD i 0) ci)) :
    Calls Tryd.prog 10 #[.int .i64 party, .int .i64 sec, .slice (some ⟨b, 0, none⟩) m c] w fun e w' => e = .returned (.bool (useB party sec ns.sum)) ∧ Below w.heap.size w w' :=
  (usable_any party sec b m c ns hm hm9 hs w hc).mono fun e w' ⟨h1, h2⟩ => ⟨h1, by rw [h2]; exact Below.refl _ _⟩
theorem sum_one (n : Nat) : [n].sum = n := by simp
theorem use_one {w : World} {A : Option Addr} {n c b : Nat} {E : TypeId} (hb : w.heap.size = b) : ∀ i, i < 1 → ∃ Ai ci, (w.alloc (.cells #[.slice A n c] E)).cell? ⟨b, i, none⟩ = some (.slice Ai ([n].getD i 0) ci) := fun i hi => by
  have : i = 0 := by omega
  subst this
  exact ⟨A, c, ((blk_new hb) 0 _ rfl).at⟩
end Go.Proofs.YtmbmejclnagffaaDoor
