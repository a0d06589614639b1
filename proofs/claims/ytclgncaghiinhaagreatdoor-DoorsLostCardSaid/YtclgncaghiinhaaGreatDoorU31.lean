/- Package doors: whether one of some showings is wrong. -/
import Derived.RangeFuncBound
import Derived.RangeFuncCalls
import Derived.RangeFuncLeaves
import Derived.Shelf.Abstract
import Derived.Shelf.RegionOpen
import Derived.WalkKit
import Derived.OwnWalkIn
import Derived.TacticsInMore
import Derived.LoopNIn
import Derived.LoopIn
import Derived.BigGuardPartIn
import Derived.Test.YtclgncaghiinhaaGreatDoorU11
import Derived.Test.YtclgncaghiinhaaGreatDoorU13
import Derived.Test.YtclgncaghiinhaaGreatDoorU30
set_option linter.unusedSimpArgs false
set_option linter.unusedVariables false
set_option maxRecDepth 100000
namespace Go.Proofs.YtclgncaghiinhaaGreatDoor
open Go.RowKit
section
attribute [local go_sem] Oper.semAt_some
/-- a showing: four integers -/
structure Sh4 where
 a : Int
 b : Int
 c : Int
 d : Int
def Sh4.cells (s : Sh4) : List Value := [.int .i64 s.a, .int .i64 s.b, .int .i64 s.c, .int .i64 s.d]
def Sh4At (_ : World) (cs : List Value) (s : Sh4) : Prop := cs = s.cells
def Shows (w : World) (A : Option Addr) (l : List Sh4) : Prop := RowsAt 4 Sh4At w A l
theorem Shows.below {w w' : World} {A : Option Addr} {l : List Sh4} (h : Shows w A l) (hb : Below w.heap.size w w') : Shows w' A l := RowsAt.below h (fun _ _ h => h) hb
theorem Shows.at {w : World} {A : Option Addr} {l : List Sh4} (h : Shows w A l) {i : Nat} {s : Sh4} (hi : l[i]? = some s) : ∃ b off, A = some ⟨b, off, none⟩ ∧ b < w.heap.size ∧
  w.cell? ⟨b, off + i * 4, none⟩ = some (.int .i64 s.a) ∧ w.cell? ⟨b, off + i * 4 + 1, none⟩ = some (.int .i64 s.b) ∧ w.cell? ⟨b, off + i * 4 + 2, none⟩ = some (.int .i64 s.c) ∧ w.cell? ⟨b, off + i * 4 + 3, none⟩ = some (.int .i64 s.d) := by
 obtain ⟨b, off, cs, e, hlt, hl, hc, rfl⟩ := h i s hi
 refine ⟨b, off, e, hlt, hc 0 (by omega), ?_, ?_, ?_⟩
 all_goals (rw [Nat.add_assoc])
 ·exact hc 1 (by omega)
 ·exact hc 2 (by omega)
 ·exact hc 3 (by omega)
theorem AbidesFrom.below {β : Type} {B : Nat} {J : β → World → Prop} (hJ : AbidesFrom B J) {s : β} {W W' : World} (h : J s W) (hb : Below W.heap.size W W') : J s W' := hJ s W W' none h (grown_of_below hb none) (fun r e => by cases e)
/-- what is handed out: a showing in its box -/
structure ShX where
 B : Nat
 s : Sh4
def shEnc (BC : Nat) (x : ShX) : Array Value := #[.int .i64 x.s.a, .func (.func 59) #[] #[.pointer (some ⟨BC, 0, none⟩), .pointer (some ⟨x.B, 0, none⟩)]]
def ShTrue (ss : List Sh4) (n₀ : Nat) (pre : List ShX) (x : ShX) (W : World) : Prop := ss[pre.length]? = some x.s ∧ n₀ ≤ x.B ∧ Blk W x.B x.s.cells.toArray
set_option maxRecDepth 100000 in
set_option maxHeartbeats 16000000 in
theorem showings1_in (n : Nat) (hn : 1 ≤ n) (l BS BC : Nat) (A : Option Addr) (cp N : Nat) (ss : List Sh4) (hN : ss.length = N) (hN5 : N ≤ 5000) (J : List ShX → World → Prop) (u w W : World) (hu : Below u.heap.size u w) (hW : Below w.heap.size w W)
  (hJ : AbidesFrom W.heap.size J)
  (hY : ∀ pre x V, J pre V → ShTrue ss w.heap.size pre x V → YieldAt Fence.wide (n - 1) Tryz.prog l (shEnc BC x) V fun e V' => e = .returned (.bool true) ∧ J (pre ++ [x]) V' ∧ Below u.heap.size V V')
  (hl : Shows u A ss) (zS : BS < w.heap.size) (cS : w.cell? ⟨BS, 0, none⟩ = some (.slice A N cp)) (h0 : J [] W) :
  CallsIn Fence.wide n Tryz.prog 58 #[.func (.yield l) #[] #[], .pointer (some ⟨BS, 0, none⟩), .pointer (some ⟨BC, 0, none⟩)] W fun e V => (∃ v, e = .returned v) ∧ ∃ xs : List ShX, xs.map ShX.s = ss ∧ J xs V := by
 have cS1 := (hW.cell (p := ⟨BS, 0, none⟩) zS).trans cS
 have hU := hu.trans (hW.mono hu.size)
 have szW := hW.size
 have szU := hU.size
 have ⟨HhJ, HhY, Hhl, HcS, HhN, HhW, Hh0, Hhu⟩ := hid8 hJ hY hl cS hN hW h0 hu; clear hJ hY hl cS hN hW h0 hu; have HhU := Lib.hid hU; clear hU
 refine callsIn_wide.2 ?_
 go_enter Tryz.func58, Tryz.ntmps58
 go_upto_region 1 with (fail)
 go_loopw [9] (fun i wr => ∃ (k : Nat) (pre : List ShX), k ≤ N ∧ i = .int .i64 k ∧ pre.map ShX.s = ss.take k ∧ J pre wr ∧ Below u.heap.size u wr ∧ w.heap.size ≤ wr.heap.size) (fun i _ => N - (intOf i).toNat)
 case atStart => exact ⟨0, [], by omega, rfl, by simp, Hh0.out, HhU.out, szW⟩
 case round =>
  obtain ⟨k, pre, hk, rfl, hpre, hJr, bz, swr⟩ := hrel
  have sz := bz.size
  by_cases hlt : k < N
  ·have g1 : (k : Int) < (N : Int) := by omega
   have g0 : (0 : Int) ≤ (k : Int) := by omega
   have hk9 : (k : Int) < 100000 := by omega
   obtain ⟨s, hs⟩ : ∃ s, ss[k]? = some s := ⟨_, List.getElem?_eq_getElem (by rw [HhN.out]; exact hlt)⟩
   obtain ⟨b, off, hA, hbl, c0, c1, c2, c3⟩ := (Hhl.out.below bz).at hs
   subst hA
   obtain ⟨sa, hsa⟩ : ∃ x, s.a = x := ⟨_, rfl⟩
   obtain ⟨sb, hsb⟩ : ∃ x, s.b = x := ⟨_, rfl⟩
   obtain ⟨sc, hsc⟩ : ∃ x, s.c = x := ⟨_, rfl⟩
   obtain ⟨sd, hsd⟩ : ∃ x, s.d = x := ⟨_, rfl⟩
   rw [hsa] at c0
   rw [hsb] at c1
   rw [hsc] at c2
   rw [hsd] at c3
   have ⟨Hhs, Hhsa, Hhsb, Hhsc, Hhsd, Hhpre, HhJr, Hbz⟩ := hid8 hs hsa hsb hsc hsd hpre hJr bz; clear hs hsa hsb hsc hsd hpre hJr bz
   go_upto_region 3 with (fail)
   obtain ⟨w2, hw2⟩ : ∃ V, wr.alloc (.cells #[.int .i64 sa, .int .i64 sb, .int .i64 sc, .int .i64 sd] 53) = V := ⟨_, rfl⟩
   rw [hw2]
   have d2 : Below wr.heap.size wr w2 := by rw [← hw2]; exact (Below.refl _ _).alloc (Nat.le_refl _) _
   have y2 : Blk w2 wr.heap.size #[.int .i64 sa, .int .i64 sb, .int .i64 sc, .int .i64 sd] := by rw [← hw2]; exact blk_new rfl
   have bz2 := Hbz.out.trans (d2.mono sz)
   have J2 := AbidesFrom.below HhJ.out HhJr.out d2
   have lpre : pre.length = k := by
    have := congrArg List.length Hhpre.out
    rw [List.length_map, List.length_take, HhN.out] at this; omega
   have tr : ShTrue ss w.heap.size pre ⟨wr.heap.size, s⟩ w2 := ⟨by rw [lpre]; exact Hhs.out, swr, by show Blk w2 wr.heap.size #[.int .i64 s.a, .int .i64 s.b, .int .i64 s.c, .int .i64 s.d]; rw [Hhsa.out, Hhsb.out, Hhsc.out, Hhsd.out]; exact y2⟩
   obtain ⟨fn, tmps, assign, body, hy, hRn⟩ := HhY.out pre ⟨wr.heap.size, s⟩ w2 J2 tr
   rw [shEnc] at hy
   dsimp only at hy
   rw [Hhsa.out] at hy
   have s2 := d2.size
   clear c0 c1 c2 c3 lpre
   have ⟨Hhw2, Hd2, Hy2, Hbz2, HJ2, Htr, HhRn⟩ := hid7 hw2 d2 y2 bz2 J2 tr hRn; clear hw2 d2 y2 bz2 J2 tr hRn
   obtain ⟨v0, v1, v2, v3⟩ := at4_of Hy2.out
   go_upto_region 4 with (fail)
   refine (wpIn_wide (n := n)).1 ?_
   gi_wp2_with fail
   refine HhRn.out.mono ?_
   rintro e w4 ⟨rfl, J4, k4⟩
   have bz4 := Hbz2.out.trans k4
   have sw4 := k4.size
   have pr4 : (pre ++ [(⟨wr.heap.size, s⟩ : ShX)]).map ShX.s = ss.take (k + 1) := by rw [List.map_append, Hhpre.out, List.take_add_one, Hhs.out]; rfl
   have ⟨HJ4, Hk4, Hbz4, Hpr4⟩ := hid4 J4 k4 bz4 pr4; clear J4 k4 bz4 pr4
   gi_wp2_with fail
   go_wp2_with fail
   go_roundw
   case rel => exact ⟨k + 1, _, by omega, by go_num, Hpr4.out, HJ4.out, Hbz4.out, by omega⟩
   case measure => simp [intOf]; omega
  ·have g1 : ¬ (k : Int) < (N : Int) := by omega
   have fin : pre.map ShX.s = ss := by rw [hpre, List.take_of_length_le (by rw [HhN.out]; omega)]
   have ⟨Hhpre, HhJr, Hbz, Hfin⟩ := hid4 hpre hJr bz fin; clear hpre hJr bz fin
   go_wp2_with fail
   go_end0
   exact ⟨⟨_, rfl⟩, pre, Hfin.out, HhJr.out⟩
theorem showings_told (n : Nat) (hn : 1 ≤ n) (BS BC : Nat) (A : Option Addr) (cp N : Nat) (ss : List Sh4) (hN : ss.length = N) (hN5 : N ≤ 5000) (u w : World) (hu : Below u.heap.size u w) (hl : Shows u A ss) (zS : BS < w.heap.size) (cS : w.cell? ⟨BS, 0, none⟩ = some (.slice A N cp)) :
  SeqTold Fence.wide n Tryz.prog 58 #[.pointer (some ⟨BS, 0, none⟩), .pointer (some ⟨BC, 0, none⟩)] (shEnc BC) (Below u.heap.size) (fun xs => xs.map ShX.s = ss) (ShTrue ss w.heap.size) w :=
 fun l J W hW hJ hY h0 => showings1_in n hn l BS BC A cp N ss hN hN5 J u w W hu hW hJ hY hl zS cS h0
end
def noneW (nl nc : Nat) (l : List Sh4) : Bool := l.all fun s => !wrgD s.a s.b s.c s.d nl nc
theorem noneW_drop {nl nc : Nat} {l : List Sh4} {k : Nat} {s : Sh4} (h : l[k]? = some s) : noneW nl nc (l.drop k) = (!wrgD s.a s.b s.c s.d nl nc && noneW nl nc (l.drop (k + 1))) := by
 obtain ⟨hk, rfl⟩ := List.getElem?_eq_some_iff.1 h
 rw [List.drop_eq_getElem_cons hk]; rfl
set_option maxHeartbeats 4000000 in
theorem dwindex_any (A : Option Addr) (cp n : Nat) (l : List Sh4) (bl bc : Nat) (X Y : Option Addr) (nl cl nc cc : Nat) (hln : l.length = n) (hn : n ≤ 9223372036854775807) (w : World) (hl : Shows w A l) (hL : w.cell? ⟨bl, 0, none⟩ = some (.slice X nl cl)) (hC : w.cell? ⟨bc, 0, none⟩ = some (.slice Y nc cc)) (zl : bl < w.heap.size) (zc : bc < w.heap.size) :
  Calls Tryz.prog 57 #[.slice A n cp, .func (.func 23) #[] #[.pointer (some ⟨bl, 0, none⟩), .pointer (some ⟨bc, 0, none⟩)]] w (IdxPost (noneW nl nc l) w) := by
 generalize hR : noneW nl nc l = R
 have h0 : R = noneW nl nc (l.drop 0) := by rw [List.drop_zero]; exact hR.symm
 have ⟨Hhl, Hhln, HhR, Hh0, HhL, HhC⟩ := hid6 hl hln hR h0 hL hC; clear hl hln hR h0 hL hC
 go_enter Tryz.func57, Tryz.ntmps57
 go_wp2_with fail
 go_loopw [8] (fun i wr => ∃ (k : Nat), k ≤ n ∧ i = .int .i64 k ∧ R = noneW nl nc (l.drop k) ∧ Below w.heap.size w wr) (fun i _ => n - (intOf i).toNat)
 case atStart => exact ⟨0, by omega, rfl, Hh0.out, Below.refl _ _⟩
 case round =>
  obtain ⟨k, hk, rfl, hRk, hb⟩ := hrel
  by_cases hlt : k < n
  ·obtain ⟨s, hs⟩ : ∃ s, l[k]? = some s := ⟨_, List.getElem?_eq_getElem (by rw [Hhln.out]; exact hlt)⟩
   obtain ⟨b, off, rfl, hbl, c0, c1, c2, c3⟩ := (Hhl.out.below hb).at hs
   rw [noneW_drop hs] at hRk
   have q := dwrong_any s.a s.b s.c s.d bl bc X Y nl cl nc cc wr (keepc hb zl HhL.out) (keepc hb zc HhC.out) (by have := hb.size; omega) (by have := hb.size; omega)
   generalize wrgD s.a s.b s.c s.d nl nc = W at *
   generalize s.a = sa at *
   generalize s.b = sb at *
   generalize s.c = sc at *
   generalize s.d = sd at *
   have i1 : (0 : Int) ≤ (k : Int) := by omega
   have i2 : (k : Int) < (n : Int) := by omega
   have hbs := hb.size
   have ⟨Hq, HhRk, Hhb, Hhs⟩ := hid4 q hRk hb hs; clear q hRk hb hs
   cases W with
   | false =>
    go_wp2_with fail
    (with_reducible refine Hq.out.mono ?_)
    rintro e w2 ⟨rfl, b2⟩
    have b3 := Hhb.out.trans (b2.mono hbs)
    have ⟨Hb2, Hb3⟩ := hid2 b2 b3; clear b2 b3
    go_wp2_with fail
    go_roundw
    case rel => exact ⟨k + 1, by omega, by go_num, by rw [HhRk.out]; rfl, Hb3.out⟩
    case measure => simp [intOf]; omega
   | true =>
    go_wp2_with fail
    (with_reducible refine Hq.out.mono ?_)
    rintro e w2 ⟨rfl, b2⟩
    have b3 := Hhb.out.trans (b2.mono hbs)
    have ⟨Hb2, Hb3⟩ := hid2 b2 b3; clear b2 b3
    go_wp2_with fail
    go_ret
    exact ⟨k, rfl, by rw [HhRk.out]; simp, by omega, by omega, Hb3.out⟩
  ·have : l.drop k = [] := List.drop_eq_nil_of_le (by rw [Hhln.out]; omega)
   rw [this] at hRk
   have ⟨HhRk, Hhb, Hthis⟩ := hid3 hRk hb this; clear hRk hb this
   go_wp2_with fail
   go_ret
   exact ⟨-1, rfl, by rw [HhRk.out]; rfl, by omega, by omega, Hhb.out⟩
theorem dwcontains_any (A : Option Addr) (cp n : Nat) (l : List Sh4) (bl bc : Nat) (X Y : Option Addr) (nl cl nc cc : Nat) (hln : l.length = n) (hn : n ≤ 9223372036854775807) (w : World) (hl : Shows w A l) (hL : w.cell? ⟨bl, 0, none⟩ = some (.slice X nl cl)) (hC : w.cell? ⟨bc, 0, none⟩ = some (.slice Y nc cc)) (zl : bl < w.heap.size) (zc : bc < w.heap.size) :
  Calls Tryz.prog 29 #[.slice A n cp, .func (.func 23) #[] #[.pointer (some ⟨bl, 0, none⟩), .pointer (some ⟨bc, 0, none⟩)]] w fun e w' => e = .returned (.bool (!noneW nl nc l)) ∧ Below w.heap.size w w' := by
 have q := dwindex_any A cp n l bl bc X Y nl cl nc cc hln hn w hl hL hC zl zc
 generalize noneW nl nc l = R at *
 unfold IdxPost at q
 have ⟨Hq, Hhl, Hhln, HhL, HhC⟩ := hid5 q hl hln hL hC; clear q hl hln hL hC
 go_enter Tryz.func29, Tryz.ntmps29
 go_wp2_with fail
 refine Hq.out.mono ?_
 rintro e w2 ⟨i, rfl, hi, i0, i1, b2⟩
 have Hb2 := Lib.hid b2; clear b2
 cases R with
 | true =>
  have hi2 : ¬ (0 ≤ i) := by simpa using hi
  go_wp2_with fail
  go_ret
  exact ⟨ret_bool (by simp), Hb2.out⟩
 | false =>
  have hi2 : 0 ≤ i := by simpa using hi
  go_wp2_with fail
  go_ret
  exact ⟨ret_bool (by simp), Hb2.out⟩
end Go.Proofs.YtclgncaghiinhaaGreatDoor
