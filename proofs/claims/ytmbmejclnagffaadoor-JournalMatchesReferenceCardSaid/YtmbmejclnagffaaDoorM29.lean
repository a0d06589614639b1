/- Rows of messages; rows of lists that grow with their lists; contracts of package journal: Args, says. -/
import Derived.Test.YtmbmejclnagffaaDoorM25
import Derived.Test.YtmbmejclnagffaaDoorM26
import Derived.Test.YtmbmejclnagffaaDoorM27
import Derived.Test.YtmbmejclnagffaaDoorM28
set_option linter.unusedSimpArgs false
set_option linter.unusedVariables false
set_option maxRecDepth 100000
namespace Go.Proofs.YtmbmejclnagffaaDoor
open Go.RowKit
/-- a message in its five cells, its integers in memory -/
def MsAt (w : World) (cs : List Value) (m : Msg) : Prop := cs = m.cells ∧ MFit m ∧ m.a.length ≤ m.c ∧ IntsAt w m.A .i64 m.a
def Msgs (w : World) (A : Option Addr) (l : List Msg) : Prop := RowsAt 5 MsAt w A l
theorem MsAt.below {w w' : World} (hb : Below w.heap.size w w') {cs : List Value} {m : Msg} (h : MsAt w cs m) : MsAt w' cs m := ⟨h.1, h.2.1, h.2.2.1, h.2.2.2.below hb⟩
theorem Msgs.below {w w' : World} {A : Option Addr} {l : List Msg} (h : Msgs w A l) (hb : Below w.heap.size w w') : Msgs w' A l := RowsAt.below h (fun _ _ h => h.below hb) hb
theorem Msgs.at {w : World} {A : Option Addr} {l : List Msg} (h : Msgs w A l) {i : Nat} {m : Msg} (hi : l[i]? = some m) : ∃ b off, A = some ⟨b, off, none⟩ ∧ b < w.heap.size ∧ (MFit m ∧ m.a.length ≤ m.c ∧ IntsAt w m.A .i64 m.a) ∧
    w.cell? ⟨b, off + i * 5, none⟩ = some (.int .i64 m.p) ∧ w.cell? ⟨b, off + i * 5 + 1, none⟩ = some (.int .i64 m.s) ∧ w.cell? ⟨b, off + i * 5 + 2, none⟩ = some (.int .i64 m.t) ∧ w.cell? ⟨b, off + i * 5 + 3, none⟩ = some (.int .i64 m.k) ∧ w.cell? ⟨b, off + i * 5 + 4, none⟩ = some (.slice m.A m.a.length m.c) := by
  obtain ⟨b, off, cs, e, hlt, hl, hc, rfl, hf, hn, hi2⟩ := h i m hi
  refine ⟨b, off, e, hlt, ⟨hf, hn, hi2⟩, ?_, ?_, ?_, ?_, ?_⟩
  · exact hc 0 (by omega)
  all_goals (rw [Nat.add_assoc])
  · exact hc 1 (by omega)
  · exact hc 2 (by omega)
  · exact hc 3 (by omega)
  · exact hc 4 (by omega)
/-- a list with its place -/
structure LR where
  A : Option Addr
  c : Nat
  l : List Int
def LR.cells (r : LR) : List Value := [.slice r.A r.l.length r.c]
theorem LR.cells_len (r : LR) : r.cells.length = 1 := rfl
theorem LR.cells_one (r : LR) : ∀ u ∈ r.cells, u.oneCell' = true := by
  intro u hu
  simp only [LR.cells, List.mem_cons, List.not_mem_nil, or_false] at hu
  rw [hu]; rfl
def LRAt (_ : World) (cs : List Value) (r : LR) : Prop := cs = r.cells
theorem IntsAt.grownO {w w' : World} {A : Option Addr} {k : IntKind} {l : List Int} {row : Option Nat} (h : IntsAt w A k l) (hg : w.grownBy w' row) (hne : blockOf A ≠ row) : IntsAt w' A k l := fun i hi => by
  obtain ⟨b, off, rfl, hlt, hc⟩ := h i hi
  exact ⟨b, off, rfl, Nat.lt_of_lt_of_le hlt hg.size, (hg.cell_far ⟨b, off + i, none⟩ hlt hne).trans hc⟩
theorem IntsAt.lt {w : World} {A : Option Addr} {k : IntKind} {l : List Int} (h : IntsAt w A k l) (hl : 0 < l.length) : ∃ b, blockOf A = some b ∧ b < w.heap.size := by
  obtain ⟨b, off, rfl, hlt, _⟩ := h 0 hl
  exact ⟨b, rfl, hlt⟩
/-- lists that were made one after the other, in a row of the call's own -/
def LRow (w : World) (base : Nat) (A : Option Addr) (c : Nat) (rs : List LR) : Prop :=
  OwnRows 45 1 LR.cells w base A c rs ∧ ∀ r ∈ rs, 0 < r.l.length ∧ r.l.length ≤ r.c ∧ IntsAt w r.A .i64 r.l ∧ blockOf r.A ≠ blockOf A
theorem LRow.nil (w : World) (base : Nat) : LRow w base none 0 [] := ⟨OwnRows.nil _ _ _ _ _, fun r hr => by cases hr⟩
theorem LRow.below {w w' : World} {base : Nat} {A : Option Addr} {c : Nat} {rs : List LR} (h : LRow w base A c rs) (hb : Below w.heap.size w w') : LRow w' base A c rs :=
  ⟨OwnRows.below h.1 hb, fun r hr => by obtain ⟨h0, h1, h2, h3⟩ := h.2 r hr; exact ⟨h0, h1, h2.below hb, h3⟩⟩
theorem LRow.lists {w : World} {base : Nat} {A : Option Addr} {c : Nat} {rs : List LR} (h : LRow w base A c rs) : ListsAt w A (rs.map (·.l)) := fun i hi => by
  have hi2 : i < rs.length := by simpa using hi
  have hr := OwnRows.rows (At := LRAt) h.1 LR.cells_len (fun _ _ => rfl) i rs[i] (List.getElem?_eq_getElem hi2)
  obtain ⟨b, off, cs, e, hlt, _, hc, hcs⟩ := hr
  obtain ⟨_, h1, h2, _⟩ := h.2 rs[i] (List.getElem_mem hi2)
  have e2 : (rs.map (·.l)).getD i [] = rs[i].l := by simp [List.getD_eq_getElem?_getD, hi2]
  rw [e2]
  refine ⟨b, off, rs[i].A, rs[i].c, e, hlt, ?_, h1, h2⟩
  have := hc 0 (by omega)
  rw [hcs] at this
  simpa [LR.cells] using this
/-- one list more -/
theorem LRow.grow {w w2 w3 : World} {base : Nat} {A A' : Option Addr} {c c' : Nat} {rs : List LR} {r : LR} (h : LRow w base A c rs) (hr0 : 0 < r.l.length) (hrc : r.l.length ≤ r.c) (hri : IntsAt w r.A .i64 r.l) (hrn : blockOf r.A ≠ blockOf A)
    (hw : w2 = w.alloc (.cells #[.slice r.A r.l.length r.c] 45)) (own : OwnRows 45 1 LR.cells w3 base A' c' (rs ++ [r])) (hg : w2.grownBy w3 (blockOf A)) (hA : blockOf A' = blockOf A ∨ blockOf A' = some w2.heap.size) : LRow w3 base A' c' (rs ++ [r]) := by
  have hb : Below w.heap.size w w2 := by rw [hw]; exact (Below.refl _ _).alloc (Nat.le_refl _) _
  refine ⟨own, fun x hx => ?_⟩
  have key : 0 < x.l.length ∧ x.l.length ≤ x.c ∧ IntsAt w x.A .i64 x.l ∧ blockOf x.A ≠ blockOf A := by
    rcases List.mem_append.1 hx with hx | hx
    · exact h.2 x hx
    · rw [List.mem_singleton] at hx; rw [hx]; exact ⟨hr0, hrc, hri, hrn⟩
  obtain ⟨k0, k1, k2, k3⟩ := key
  refine ⟨k0, k1, (k2.below hb).grownO hg k3, ?_⟩
  rcases hA with hA | hA
  · rw [hA]; exact k3
  · rw [hA]
    obtain ⟨b, e, hlt⟩ := k2.lt k0
    rw [e]; intro e2; injection e2 with e2
    have := hb.size; omega
/-- the error and the integers of a message -/
def argE (m : Msg) : Int := if msgB m = true then 0 else 1
def argL (m : Msg) : List Int := if msgB m = true then msI m else []
theorem msgB_len {m : Msg} (h : msgB m = true) : m.a.length ≤ 7 := by
  have := (msgB_iff.1 h).2.2.2.2.1
  have := cntI_le m.k
  omega
set_option maxHeartbeats 4000000 in
theorem jargs_any (m : Msg) (hf : MFit m) (w : World) (hl : IntsAt w m.A .i64 m.a) (hc : Cnt w) :
    Calls Tryd.prog 16 #[.agg m.cells.toArray] w (OwnErr 3 .i64 (argL m) (argE m) w) := by
  obtain ⟨w0, hw0⟩ : ∃ W, w.alloc (.cells m.cells.toArray 47) = W := ⟨_, rfl⟩
  have bb0 : Below w.heap.size w w0 := by rw [← hw0]; exact (Below.refl _ _).alloc (Nat.le_refl _) _
  have k0 : Blk w0 w.heap.size m.cells.toArray := by rw [← hw0]; exact blk_new rfl
  have l0 := hl.below bb0
  have c0 := hc.below bb0
  have q1 := fun W h1 h2 => jright_any m hf W h1 h2
  have q2 := fun h W h1 => jints_any m h W h1
  have e0 : m.cells.toArray = #[.int .i64 m.p, .int .i64 m.s, .int .i64 m.t, .int .i64 m.k, .slice m.A m.a.length m.c] := rfl
  rw [e0] at hw0 k0 q1 q2 ⊢
  cases hm : msgB m with
  | false =>
    have eE : argE m = 1 := by rw [argE, hm]; rfl
    have eL : argL m = [] := by rw [argL, hm]; rfl
    rw [hm] at q1
    rw [eE, eL]
    have ⟨H_hw0, H_bb0, H_k0, H_l0, H_c0, H_q1, H_q2, H_hm⟩ := hid8 hw0 bb0 k0 l0 c0 q1 q2 hm; clear hw0 bb0 k0 l0 c0 q1 q2 hm; have ⟨H_eE, H_eL, H_hf, H_hl, H_hc, H_e0⟩ := hid6 eE eL hf hl hc e0; clear eE eL hf hl hc e0
    have y0 := (H_k0.out 0 _ rfl).at
    have y1 := (H_k0.out 1 _ rfl).at
    have y2 := (H_k0.out 2 _ rfl).at
    have y3 := (H_k0.out 3 _ rfl).at
    have y4 := (H_k0.out 4 _ rfl).at
    go_enter Tryd.func16, Tryd.ntmps16
    go_upto_region 1 with (fail)
    rw [H_hw0.out]
    go_wp2_with fail
    (with_reducible refine (H_q1.out _ ?_ ?_).mono ?_)
    · exact H_l0.out.below (show Below w0.heap.size w0 _ from belt)
    · exact H_c0.out.below (show Below w0.heap.size w0 _ from belt)
    rintro e w1 ⟨rfl, b1⟩
    have c1 : Below w0.heap.size w0 w1 := Below.trans belt (b1.mono omh)
    have s1 := c1.size
    have bb1 := H_bb0.out.trans (c1.mono H_bb0.out.size)
    have ⟨H_b1, H_c1, H_bb1⟩ := hid3 b1 c1 bb1; clear b1 c1 bb1
    go_wp2_with fail
    go_ret2
    exact ⟨none, 0, rfl, OwnInts.nil _ _ _ _, H_bb1.out⟩
  | true =>
    have eE : argE m = 0 := by rw [argE, hm]; rfl
    have eL : argL m = msI m := by rw [argL, hm]; rfl
    rw [hm] at q1
    rw [eE, eL]
    have hn := msgB_len hm
    have q2 := q2 (by omega)
    have hlen : (msI m).length = 4 + m.a.length := by simp [msI]; omega
    generalize msI m = L at *
    have ⟨H_hw0, H_bb0, H_k0, H_l0, H_c0, H_q1, H_q2, H_hm⟩ := hid8 hw0 bb0 k0 l0 c0 q1 q2 hm; clear hw0 bb0 k0 l0 c0 q1 q2 hm; have ⟨H_eE, H_eL, H_hf, H_hl, H_hc, H_e0, H_hlen⟩ := hid7 eE eL hf hl hc e0 hlen; clear eE eL hf hl hc e0 hlen
    have y0 := (H_k0.out 0 _ rfl).at
    have y1 := (H_k0.out 1 _ rfl).at
    have y2 := (H_k0.out 2 _ rfl).at
    have y3 := (H_k0.out 3 _ rfl).at
    have y4 := (H_k0.out 4 _ rfl).at
    go_enter Tryd.func16, Tryd.ntmps16
    go_upto_region 1 with (fail)
    rw [H_hw0.out]
    go_wp2_with fail
    (with_reducible refine (H_q1.out _ ?_ ?_).mono ?_)
    · exact H_l0.out.below (show Below w0.heap.size w0 _ from belt)
    · exact H_c0.out.below (show Below w0.heap.size w0 _ from belt)
    rintro e w1 ⟨rfl, b1⟩
    have c1 : Below w0.heap.size w0 w1 := Below.trans belt (b1.mono omh)
    have s1 := c1.size
    have bb1 := H_bb0.out.trans (c1.mono H_bb0.out.size)
    have k1 := H_k0.out.below c1
    have l1 := H_l0.out.below c1
    have ⟨H_b1, H_c1, H_bb1, H_k1, H_l1⟩ := hid5 b1 c1 bb1 k1 l1; clear b1 c1 bb1 k1 l1
    clear y0 y1 y2 y3 y4
    have y0 := (H_k1.out 0 _ rfl).at
    have y1 := (H_k1.out 1 _ rfl).at
    have y2 := (H_k1.out 2 _ rfl).at
    have y3 := (H_k1.out 3 _ rfl).at
    have y4 := (H_k1.out 4 _ rfl).at
    go_wp2_with fail
    (with_reducible refine (H_q2.out _ ?_).mono ?_)
    · exact H_l1.out.below (show Below w1.heap.size w1 _ from belt)
    rintro e w2 ⟨A2, c2, rfl, o2, b2⟩
    have c2 : Below w1.heap.size w1 w2 := Below.trans belt (b2.mono omh)
    have s2 := c2.size
    have bb2 := H_bb1.out.trans (c2.mono H_bb1.out.size)
    have ⟨H_b2, H_c2, H_bb2⟩ := hid3 b2 c2 bb2; clear b2 c2 bb2
    have o3 := o2.base_le H_bb1.out.size
    have ⟨H_o2, H_o3⟩ := hid2 o2 o3; clear o2 o3
    go_wp2_with fail
    go_ret2
    exact ⟨A2, c2, by rw [H_hlen.out]; rfl, H_o3.out, H_bb2.out⟩
end Go.Proofs.YtmbmejclnagffaaDoor
