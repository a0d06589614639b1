/- Lists of showings and of booleans that grow; those that are chosen. -/
import Derived.OwnWalk
import Derived.Test.YtclgncaghiinhaaGreatDoorU8
import Derived.Test.YtclgncaghiinhaaGreatDoorU10
import Derived.Test.YtclgncaghiinhaaGreatDoorU37
import Derived.Test.YtclgncaghiinhaaGreatDoorU38
import Derived.Test.YtclgncaghiinhaaGreatDoorU41
import Derived.Test.YtclgncaghiinhaaGreatDoorU47
set_option linter.unusedSimpArgs false
set_option linter.unusedVariables false
set_option maxRecDepth 100000
namespace Go.Proofs.YtclgncaghiinhaaGreatDoor
open Go.RowKit
section
open Go.RowKit Go.Maps
/-- two new slots -/
def Two (w wx : World) (g h : Nat) (u v : Array Value) : Prop := (w.heap.size ≤ g ∧ w.heap.size ≤ h ∧ g ≠ h) ∧ Blk wx g u ∧ Blk wx h v ∧ Below w.heap.size w wx
theorem Two.drew {w wx : World} {g h : Nat} {u v : Array Value} (t : Two w wx g h u v) : Two w wx.drew g h u v := ⟨t.1, t.2.1.below (Below.refl _ _).drew, t.2.2.1.below (Below.refl _ _).drew, t.2.2.2.drew⟩
section
variable {w w2 : World} {U V : Array Value} {t t' : TypeId} {g h : Nat} {z0 z1 z2 z3 y0 y1 y2 y3 a0 a1 a2 a3 b0 b1 b2 b3 : Value}
end
end
/-- what a run that goes through says, by its showings -/
theorem ran {ls : List Lk} {cs : List Crd} {ss : List Sh4} (h : runB ls cs ss = true) : runW ls cs ss = runO cs ls (ss.map Sh4.shw) ∧ (runW ls cs ss).length = ss.length ∧ runN ls cs ss = 0 ∧ runL ls cs ss = runS cs ls (ss.map Sh4.shw) ∧ (runL ls cs ss).length = ls.length := by
 rw [runW, runN, runL, if_pos h, if_pos h, if_pos h, runO_len, List.length_map, runS_len]; exact ⟨rfl, rfl, rfl, rfl, rfl⟩
/-- the card that revokes -/
def rvC (x : Int) : Crd := ⟨900001, 3, 0, 0, 0, 1000000000, x, 0, 0⟩
theorem rvC_fit {x : Int} (h : -9223372036854775808 ≤ x ∧ x ≤ 9223372036854775807) : CFit (rvC x) :=
 ⟨by simp [rvC], by simp [rvC], by simp [rvC], by simp [rvC], by simp [rvC], by simp [rvC], h, by simp [rvC], by simp [rvC]⟩
/-- a slot in which the card's number is, or which may be full -/
def kpB (K : Bool) (s : Slt) : Bool := ((K || s.l.any (· == 900001)) || decide (999999970 ≤ s.s)) || decide (500 ≤ s.l.length)
theorem kpB_no {K : Bool} {s : Slt} (h : kpB K s = false) : K = false ∧ ¬ (900001 : Int) ∈ s.l ∧ s.s < 999999970 ∧ s.l.length < 500 := by
 simp only [kpB, Bool.or_eq_false_iff, decide_eq_false_iff_not] at h
 obtain ⟨⟨⟨h1, h2⟩, h3⟩, h4⟩ := h
 refine ⟨h1, fun hm => ?_, by omega, by omega⟩
 have : s.l.any (· == 900001) = true := List.any_eq_true.2 ⟨_, hm, by simp⟩
 rw [h2] at this; cases this
theorem mkd_fld {c : Crd} {s o : Int} (h : mayMk c s o = true) : (mkdC c s o).i = c.i ∧ (mkdC c s o).k = c.k ∧ (mkdC c s o).d = c.d ∧ (mkdC c s o).f = c.f ∧ (mkdC c s o).u = c.u ∧ (mkdC c s o).l = c.l := by
 rw [mkdC, if_pos h]; exact ⟨rfl, rfl, rfl, rfl, rfl, rfl⟩
/-- the other card, with a counter of its own -/
theorem fresh_may {d : Crd} {o N : Int} (hd : cvB d = true) (ho : wthB o 1 = true) (hN : if d.k = 1 then 1 ≤ N ∧ N ≤ 1000000000 else N = d.n) : mayMk { d with n := N } 5 o = true := by
 have h5 : wthB 5 1 = true := by decide
 have hv : cvB (({ d with n := N } : Crd).sig 0 0) = true := by
  rw [cvB_iff] at hd ⊢
  obtain ⟨⟨h1, h2, h3, h4, h6, h7⟩, hk⟩ := hd
  refine ⟨⟨by simp [Crd.sig], by simp [Crd.sig], h3, h4, h6, h7⟩, ?_⟩
  unfold kindP at hk ⊢
  simp only [Crd.sig]
  split at hN <;> omega
 rw [mayMk, hv, h5, ho]; rfl
/-- the three cards -/
def lostC (d : Crd) (o N : Int) : List Crd := [mkdC (rvC d.i) 5 o, d, mkdC { d with n := N } 5 o]
theorem lost_plain {L : Lk} {d : Crd} {o N : Int} (hv : lvB L = true) (hr : L.r = 0) (hk : L.k = 1024) (hm : mayMk (rvC d.i) 5 o = true) (hd : cvB d = true) (hi : d.i ≤ 900000) (hN : if d.k = 1 then 1 ≤ N ∧ N ≤ 1000000000 else N = d.n) (ss : List Sh4) (hs : ∀ s ∈ ss, GoodS 1 3 s) :
    mayMk { d with n := N } 5 o = true ∧ runB [L] (lostC d o N) (⟨0, 0, 50, 3⟩ :: ss) = true ∧ (kpB (kpB false L.x) L.y = true ∨ ∀ b ∈ runW [L] (lostC d o N) (⟨0, 0, 50, 3⟩ :: ss), b = false) := by
  have hm2 := fresh_may (o := o) hd (may_nat hm).2.2.1 hN
  obtain ⟨a1, a2, a3, a4, a5, a6⟩ := mkd_fld hm
  obtain ⟨b1, _⟩ := mkd_fld hm2
  have v1 := mkd_v hm
  have v2 := mkd_v hm2
  have hB : runB [L] (lostC d o N) (⟨0, 0, 50, 3⟩ :: ss) = true := by
    have h1 : lksB [L] = true := by simp [lksB, hv]
    have h2 : cdsB (lostC d o N) = true := by simp [cdsB, lostC, allV, v1, v2, hd]
    have h3 : noneW [L].length (lostC d o N).length (⟨0, 0, 50, 3⟩ :: ss) = true := none_iff.2 fun s hs2 => by
      rcases List.mem_cons.1 hs2 with rfl | h
      · exact ⟨by simp, by simp, by simp, by simp [lostC], by simp, by simp, by simp [timeB]⟩
      · exact hs s h
    rw [runB, h1, h2, h3]; rfl
  refine ⟨hm2, hB, ?_⟩
  cases hK : kpB (kpB false L.x) L.y with
  | true => exact .inl rfl
  | false =>
    refine .inr ?_
    obtain ⟨hK1, ky1, ky2, ky3⟩ := kpB_no hK
    obtain ⟨_, kx1, kx2, kx3⟩ := kpB_no hK1
    have hp : ¬ (900001 : Int) ∈ (keepS L).l ∧ (keepS L).s < 999999970 ∧ (keepS L).l.length < 500 := by
      unfold keepS; split
      · exact ⟨ky1, ky2, ky3⟩
      · exact ⟨kx1, kx2, kx3⟩
    have hchk : chkB (mkdC (rvC d.i) 5 o) L.k = true := by
      have hr := (mkd_right hm).1
      have e5 : (5 : Int).toNat = 5 := rfl
      rw [e5, pw45] at hr
      rw [hk]; exact hr
    have hl : (mkdC (rvC d.i) 5 o).l ∈ (keepS (stp L (mkdC (rvC d.i) 5 o) 50 3).1).l :=
      lost_first hv hr v1 (by decide) a2 a3 (by rw [a4, a5]; exact ⟨by simp [rvC], by simp [rvC]⟩) hchk (by rw [a1]; exact hp.1) (by omega) hp.2.2
    have e1 : (mkdC (rvC d.i) 5 o).l = d.i := a6
    rw [e1] at hl
    rw [(ran hB).1, List.map_cons, runO]
    intro b hb
    rcases List.mem_cons.1 hb with rfl | hb
    · exact stp_revoke a2
    · refine gone_run (lostC d o N) (x := d.i) (ss.map Sh4.shw) _ (fun s hs2 => ?_) (by simp [oneS]) (by
        rw [oneS_at (show (Sh4.shw ⟨0, 0, 50, 3⟩).i < [L].length from Nat.zero_lt_one)]
        exact hl) b hb
      obtain ⟨z, hz, rfl⟩ := List.mem_map.1 hs2
      have g := hs z hz
      have g0 := g.a0; have g1 := g.a1; have g2 := g.b0; have g3 := g.b1
      refine ⟨by show z.a.toNat = 0; omega, ?_⟩
      have h3 : z.b.toNat = 0 ∨ z.b.toNat = 1 ∨ z.b.toNat = 2 := by omega
      show (cdD _ z.b.toNat).k = 3 ∨ (cdD _ z.b.toNat).i = d.i
      rcases h3 with h | h | h <;> rw [h]
      · exact .inl a2
      · exact .inr rfl
      · exact .inr b1
/-- the remainder that is no less than 0 -/
def rm (a n : Int) : Int := (a.tmod n + n).tmod n
theorem rm_in {a n : Int} (hn : 0 < n) : 0 ≤ rm a n ∧ rm a n < n := by
 have h1 := Int.lt_tmod_of_pos a hn
 exact ⟨Int.tmod_nonneg _ (by omega), Int.tmod_lt_of_pos _ hn⟩
theorem rm_walk {a n : Int} (hn : 0 < n ∧ n ≤ 1000000000) : ∃ p q : Int, a.tmod n = p ∧ IntKind.i64.wrap p = p ∧ IntKind.i64.wrap (p + n) = q ∧ q.tmod n = rm a n ∧ IntKind.i64.wrap (rm a n) = rm a n := by
 have h1 := Int.lt_tmod_of_pos a hn.1
 have h2 := Int.tmod_lt_of_pos a hn.1
 have h3 := rm_in (a := a) hn.1
 refine ⟨_, _, rfl, IntWalk.i64_in _ (by omega), rfl, ?_, IntWalk.i64_in _ (by omega)⟩
 rw [IntWalk.i64_in (a.tmod n + n) (by omega)]; rfl
def lsS (s : Sh4) : Sh4 := ⟨0, rm s.b 3, rm s.c 1000000000, rm s.d 4⟩
theorem lsS_good (s : Sh4) : GoodS 1 3 (lsS s) := by
 have h1 := rm_in (a := s.b) (n := 3) (by omega)
 have h2 := rm_in (a := s.c) (n := 1000000000) (by omega)
 have h3 := rm_in (a := s.d) (n := 4) (by omega)
 exact ⟨by simp [lsS], by simp [lsS], h1.1, h1.2, h3.1, by simp only [lsS]; omega, timeB_iff.2 h2⟩
section
theorem infoShow : (Tryz.prog.info? 53).map (fun i => (i.zero, i.size, i.bytes)) = some (some (.agg #[.int .i64 0, .int .i64 0, .int .i64 0, .int .i64 0]), 4, 32) := by kernel_rfl
theorem sh4_one (s : Sh4) : ∀ u ∈ s.cells, u.oneCell' = true := fun u hu => by
 simp only [Sh4.cells, List.mem_cons, List.not_mem_nil, or_false] at hu
 rcases hu with rfl | rfl | rfl | rfl <;> rfl
def OwnS (w : World) (base : Nat) (A : Option Addr) (c : Nat) (l : List Sh4) : Prop := OwnRows 53 4 Sh4.cells w base A c l
theorem OwnS.shows {w : World} {base : Nat} {A : Option Addr} {c : Nat} {l : List Sh4} (h : OwnS w base A c l) : Shows w A l := OwnRows.rows h sh4_len fun _ _ => rfl
section
variable {ops : Array Oper} {o : Oper} {a : Act} {Q : Exit → Act → World → Prop}
theorem wp_app_show {rest : List Oper} (w : World) (hgd : o.guard = none) (s x : Operand) (ho : o.op = .call { callee := .builtin .append, args := #[s, x], argTypes := #[24, 24] }) (base : Nat) (A B : Option Addr) (c cc n : Nat) (l : List Sh4) (z : Sh4) (hln : l.length = n) (hn : n ≤ 1000) (hs : a.eval s = .slice A n c) (hx : a.eval x = .slice B 1 cc) (hown : OwnS w base A c l) (hr : Shows w B [z]) (hbase : base ≤ w.heap.size)
  (h : ∀ A' c' w', OwnS w' base A' c' (l ++ [z]) → w.grownBy w' (blockOf A) → wpList Tryz.prog ops Q rest (a.put o.dst (.slice A' (n + 1) c')) w') : wpList Tryz.prog ops Q (o :: rest) a w := by
 obtain ⟨i0, hi0, hz0, hz1, hz2⟩ := info_parts infoShow
 exact wp_app_gen (At := Sh4At) w hgd s x _ ho i0 _ 32 Tryz.underlying24 hi0 hz0 hz1 hz2 rfl (by decide) sh4_len sh4_one (fun _ _ h => h) n hln hs hown B cc 1 [z] rfl hx hr (by unfold maxLen; omega) (by omega) hbase fun A' c' w' h1 h2 _ => h A' c' w' h1 h2
end
theorem shows_new (w : World) (s : Sh4) (t : TypeId) (n : Nat) (hn : w.heap.size = n) : Shows (w.alloc (.cells #[.int .i64 s.a, .int .i64 s.b, .int .i64 s.c, .int .i64 s.d] t)) (some ⟨n, 0, none⟩) [s] := shows_lit w [s] _ t n hn rfl
end
end Go.Proofs.YtclgncaghiinhaaGreatDoor
