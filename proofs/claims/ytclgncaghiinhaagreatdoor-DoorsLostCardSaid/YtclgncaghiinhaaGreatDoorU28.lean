/- Package doors: cards, whole. -/
import Derived.Test.YtclgncaghiinhaaGreatDoorU9
import Derived.Test.YtclgncaghiinhaaGreatDoorU11
import Derived.Test.YtclgncaghiinhaaGreatDoorU13
import Derived.Test.YtclgncaghiinhaaGreatDoorU27
set_option linter.unusedSimpArgs false
set_option linter.unusedVariables false
set_option maxRecDepth 100000
namespace Go.Proofs.YtclgncaghiinhaaGreatDoor
open Go.RowKit
theorem cell_drew (W : World) (p : Addr) : W.drew.cell? p = W.cell? p := rfl
theorem cell_far {g b : Nat} (hp : g ≠ b) (W : World) (p o : Nat) (u : Value) : (W.setCell ⟨g, p, none⟩ u).cell? ⟨b, o, none⟩ = W.cell? ⟨b, o, none⟩ := World.cell?_setCell_other _ _ _ _ (by simp only [ne_eq, Addr.mk.injEq, and_true, not_and]; exact fun h => absurd h hp)
/-- a place known since a later world is known since an earlier one -/
theorem Prov.into {w w7 w8 W : World} {A0 A : Option Addr} {l0 l : List Int} (h : Prov w7 w8 A0 l0 A l) (hw : w.heap.size ≤ w7.heap.size) (hi : IntsAt W A .i64 l) : Prov w W A0 l0 A l :=
 ⟨hi, h.2.imp id (Or.imp id fun h2 b off e => Nat.le_trans hw (h2 b off e))⟩
theorem ints_alloc {w : World} {A : Option Addr} {l : List Int} (h : IntsAt w A .i64 l) (x : Obj) : IntsAt (w.alloc x) A .i64 l := IntsAt.below h ((Below.refl _ _).alloc (Nat.le_refl _) _)
theorem ints_drew {w : World} {A : Option Addr} {l : List Int} (h : IntsAt w A .i64 l) : IntsAt w.drew A .i64 l := IntsAt.below h (Below.refl _ _).drew
/-- a list that does not lie in a block -/
def OffB (A : Option Addr) (l : List Int) (g : Nat) : Prop := ∀ b off, l ≠ [] → A = some ⟨b, off, none⟩ → b ≠ g
theorem offB_old {w : World} {A : Option Addr} {l : List Int} {g : Nat} (h : IntsAt w A .i64 l) (hg : w.heap.size ≤ g) : OffB A l g := fun b off hl hA => by
 have hlen : 0 < l.length := by
  cases l with
  | nil => exact absurd rfl hl
  | cons x r => simp
 obtain ⟨b2, o2, e, h5, _⟩ := h 0 hlen
 rw [hA] at e
 injection e with e
 injection e with e1 _
 omega
theorem dev_put8 {w : World} {b : Nat} {a0 a1 a2 b11 b3 v3 b4 v4 b5 v5 b6 v6 b7 v7 b8 v8 b9 v9 b10 v10 : Value} (h : Blk w b #[a0, a1, a2, b3, b4, b5, b6, b7, b8, b9, b10, b11]) : Blk (putL w b 3 [v3, v4, v5, v6, v7, v8, v9, v10]) b #[a0, a1, a2, v3, v4, v5, v6, v7, v8, v9, v10, b11] := by
 have h3 : Blk _ b #[a0, a1, a2, v3, b4, b5, b6, b7, b8, b9, b10, b11] := h.set 3 v3 (by simp)
 have h4 : Blk _ b #[a0, a1, a2, v3, v4, b5, b6, b7, b8, b9, b10, b11] := h3.set 4 v4 (by simp)
 have h5 : Blk _ b #[a0, a1, a2, v3, v4, v5, b6, b7, b8, b9, b10, b11] := h4.set 5 v5 (by simp)
 have h6 : Blk _ b #[a0, a1, a2, v3, v4, v5, v6, b7, b8, b9, b10, b11] := h5.set 6 v6 (by simp)
 have h7 : Blk _ b #[a0, a1, a2, v3, v4, v5, v6, v7, b8, b9, b10, b11] := h6.set 7 v7 (by simp)
 have h8 : Blk _ b #[a0, a1, a2, v3, v4, v5, v6, v7, v8, b9, b10, b11] := h7.set 8 v8 (by simp)
 have h9 : Blk _ b #[a0, a1, a2, v3, v4, v5, v6, v7, v8, v9, b10, b11] := h8.set 9 v9 (by simp)
 have h10 : Blk _ b #[a0, a1, a2, v3, v4, v5, v6, v7, v8, v9, v10, b11] := h9.set 10 v10 (by simp)
 exact h10
/-- a lock and where its lists lie -/
structure LkP where
 L : Lk
 A : Option Addr
 p : Nat
 B : Option Addr
 r : Nat
def LkP.cells (P : LkP) : List Value := P.L.cells P.A P.L.x.l.length P.p P.B P.L.y.l.length P.r
def LkP.zero : LkP := ⟨Lk.zero, none, 0, none, 0⟩
theorem LkP.len (P : LkP) : P.cells.length = 12 := rfl
structure LkP.Ok (P : LkP) (w : World) : Prop where
 a : IntsAt w P.A .i64 P.L.x.l
 b : IntsAt w P.B .i64 P.L.y.l
 fx : SFit P.L.x
 fy : SFit P.L.y
structure LkP.Far (P : LkP) (g : Nat) : Prop where
 a : OffB P.A P.L.x.l g
 b : OffB P.B P.L.y.l g
theorem LkP.Ok.below {P : LkP} {w w' : World} (h : P.Ok w) (hb : Below w.heap.size w w') : P.Ok w' := ⟨h.a.below hb, h.b.below hb, h.fx, h.fy⟩
theorem LkP.Ok.far {P : LkP} {w : World} (h : P.Ok w) {g : Nat} (hg : w.heap.size ≤ g) : P.Far g := ⟨offB_old h.a hg, offB_old h.b hg⟩
theorem LkP.Ok.x {P : LkP} {w : World} (h : P.Ok w) : SlotIs w P.A P.L.x.l.length P.L.x := h.fx.is h.a
theorem LkP.Ok.y {P : LkP} {w : World} (h : P.Ok w) : SlotIs w P.B P.L.y.l.length P.L.y := h.fy.is h.b
theorem LkP.Ok.grown {P : LkP} {w w' : World} {g : Nat} (h : P.Ok w) (hg : w.grownBy w' (some g)) (hf : P.Far g) : P.Ok w' := by
 have k : ∀ {A : Option Addr} {l : List Int}, IntsAt w A .i64 l → OffB A l g → IntsAt w' A .i64 l := fun {A l} hi ho i hl => by
  obtain ⟨b, off, e, h1, h2⟩ := hi i hl
  have hne : b ≠ g := ho b off (fun e => by rw [e] at hl; simp at hl) e
  refine ⟨b, off, e, by have := hg.size; omega, hg.cell h2 (fun e => hne (Option.some.inj e))⟩
 exact ⟨k h.a hf.a, k h.b hf.b, h.fx, h.fy⟩
theorem LkP.zero_ok (w : World) : LkP.zero.Ok w := ⟨IntsAt.nil, IntsAt.nil, sfit_zero, sfit_zero⟩
theorem LkP.zero_far (g : Nat) : LkP.zero.Far g := ⟨fun _ _ h => absurd rfl h, fun _ _ h => absurd rfl h⟩
theorem Prov.offB {w w' : World} {A0 A : Option Addr} {l0 l : List Int} {g : Nat} (h : Prov w w' A0 l0 A l) (h0 : OffB A0 l0 g) (hg : g < w.heap.size) : OffB A l g := fun b off hl hA => by
 rcases h.2 with h3 | ⟨h3, h4⟩ | h3
 ·exact absurd h3 hl
 ·subst h3 h4; exact h0 b off hl hA
 ·have := h3 b off hA
  omega
/-- locks that came in -/
def LkpAt (w : World) (cs : List Value) (P : LkP) : Prop := cs = P.cells ∧ P.Ok w
def Locks (w : World) (A : Option Addr) (Ps : List LkP) : Prop := RowsAt 12 LkpAt w A Ps
theorem Locks.below {w w' : World} {A : Option Addr} {Ps : List LkP} (h : Locks w A Ps) (hb : Below w.heap.size w w') : Locks w' A Ps := fun i z hz => by
 obtain ⟨b, off, cs, e, hlt, hl, hc, ha⟩ := h i z hz
 exact ⟨b, off, cs, e, Nat.lt_of_lt_of_le hlt hb.size, hl, fun j hj => (hb.cell (p := ⟨b, off + (i * 12 + j), none⟩) hlt).trans (hc j hj), ha.1, ha.2.below hb⟩
theorem Locks.at {w : World} {A : Option Addr} {Ps : List LkP} (h : Locks w A Ps) {i : Nat} {P : LkP} (hi : Ps[i]? = some P) : ∃ b off, A = some ⟨b, off, none⟩ ∧ b < w.heap.size ∧ P.Ok w ∧ ∀ j v, P.cells[j]? = some v → w.cell? ⟨b, off + i * 12 + j, none⟩ = some v := by
 obtain ⟨b, off, cs, e, hlt, hl, hc, rfl, ha⟩ := h i P hi
 refine ⟨b, off, e, hlt, ha, fun j v hj => ?_⟩
 rw [Nat.add_assoc, hc j ?_]
 ·exact hj
 ·rcases Nat.lt_or_ge j 12 with h1 | h1
  ·exact h1
  ·rw [List.getElem?_eq_none (by rw [LkP.len]; exact h1)] at hj; cases hj
/-- locks in a block of one's own -/
structure House (g : Nat) (w : World) (Ps : List LkP) : Prop where
 blk : Blk w g (Ps.flatMap LkP.cells).toArray
 ok : ∀ P ∈ Ps, P.Ok w
 far : ∀ P ∈ Ps, P.Far g
theorem House.below {g : Nat} {w w' : World} {Ps : List LkP} (h : House g w Ps) (hb : Below w.heap.size w w') : House g w' Ps := ⟨h.blk.below hb, fun P hP => (h.ok P hP).below hb, h.far⟩
theorem House.at {g : Nat} {w : World} {Ps : List LkP} (h : House g w Ps) {i : Nat} {P : LkP} (hi : Ps[i]? = some P) {j : Nat} {v : Value} (hj : P.cells[j]? = some v) : Cel w g (i * 12 + j) v := by
 refine h.blk _ v ?_
 have hlt : j < 12 := by
  rcases Nat.lt_or_ge j 12 with h1 | h1
  ·exact h1
  ·rw [List.getElem?_eq_none (by rw [LkP.len]; exact h1)] at hj; cases hj
 rw [List.getElem?_toArray, flat_get LkP.len Ps i j P hlt hi]; exact hj
theorem putL_out {b k : Nat} {v : Value} : ∀ (vs : List Value) (w : World) (o : Nat), (k < o ∨ o + vs.length ≤ k) → Cel w b k v → Cel (putL w b o vs) b k v
 | [], w, o, _, h => h
 | x :: r, w, o, hk, h => putL_out r _ _ (by simp only [List.length_cons] at hk; omega) (h.near (by simp only [List.length_cons] at hk; omega) x)
theorem putL_grown {b : Nat} : ∀ (vs : List Value) (w : World) (o : Nat), w.grownBy (putL w b o vs) (some b)
 | [], w, o => grown_refl _ _
 | x :: r, w, o => by
  have h1 := grown_set (grown_refl w (some b)) o x
  exact grown_then h1 (putL_grown r _ _) (.inl rfl)
theorem House.put {g : Nat} {w : World} {Ps : List LkP} (h : House g w Ps) {i : Nat} {P0 P : LkP} (hi : Ps[i]? = some P0) (ho : P.Ok w) (hf : P.Far g) : House g (putL w g (i * 12) P.cells) (Ps.set i P) := by
 have hlt : i < Ps.length := (List.getElem?_eq_some_iff.1 hi).1
 have hmem : ∀ Q ∈ Ps.set i P, Q = P ∨ Q ∈ Ps := fun Q hQ => by
  rcases List.mem_or_eq_of_mem_set hQ with h1 | h1
  ·exact .inr h1
  ·exact .inl h1
 have kk : ∀ Q : LkP, Q.Ok w → Q.Far g → Q.Ok (putL w g (i * 12) P.cells) := fun Q h1 h2 => ⟨putL_ints (fun b' off hl e => h2.a b' off hl e) _ _ _ h1.a, putL_ints (fun b' off hl e => h2.b b' off hl e) _ _ _ h1.b, h1.fx, h1.fy⟩
 refine ⟨fun k v hv => ?_, fun Q hQ => ?_, fun Q hQ => ?_⟩
 ·rw [List.getElem?_toArray] at hv
  obtain ⟨i', j, z, hj, hz, rfl, hu⟩ := flat_split LkP.len _ k v hv
  rw [List.getElem?_set] at hz
  by_cases e : i = i'
  ·subst e
   rw [if_pos rfl, if_pos hlt] at hz
   have : P = z := Option.some.inj hz
   subst this
   exact putL_cel _ _ _ (fun j' hj' => ⟨_, h.at hi (List.getElem?_eq_getElem (by rw [LkP.len]; rw [LkP.len] at hj'; exact hj'))⟩) j v hu
  ·rw [if_neg e] at hz
   refine putL_out _ _ _ ?_ (h.at hz hu)
   rw [LkP.len]
   rcases Nat.lt_or_ge i i' with h1 | h1
   ·right; omega
   ·left; omega
 ·rcases hmem Q hQ with rfl | h1
  ·exact kk _ ho hf
  ·exact kk Q (h.ok Q h1) (h.far Q h1)
 ·rcases hmem Q hQ with rfl | h1
  ·exact hf
  ·exact h.far Q h1
/-- another block of one's own is written, in which no list lies -/
theorem House.grown {g r : Nat} {w w' : World} {Ps : List LkP} (h : House g w Ps) (hg : w.grownBy w' (some r)) (hne : g ≠ r) (hr : ∀ P ∈ Ps, P.Far r) : House g w' Ps :=
  ⟨fun o v hv => by
    have c := h.blk o v hv
    refine ⟨by have := hg.size; have := c.lt; omega, hg.cell c.at (fun e => hne (Option.some.inj e)), ?_⟩
    rw [World.frozen?_of_block (hg.block g c.lt (fun e => hne (Option.some.inj e)))]; exact c.free,
   fun P hP => (h.ok P hP).grown hg (hr P hP), h.far⟩
/-- a new block of zero locks -/
theorem House.made {w' : World} {base g n : Nat} {E : TypeId} (h : w'.ownsRow base E 12 (.slice (some ⟨g, 0, none⟩) n n) n (madeCells LkP.zero.cells.toArray (n * 12)).toList) : House g w' (List.replicate n LkP.zero) := by
 refine ⟨fun o v hv => ?_, fun P hP => by rw [(List.mem_replicate.1 hP).2]; exact LkP.zero_ok _, fun P hP => by rw [(List.mem_replicate.1 hP).2]; exact LkP.zero_far _⟩
 rcases h.2 with ⟨h1, _⟩ | ⟨g', cap, cur, hv', _, hh, _, _, hs, ht⟩
 ·cases h1
 ·injection hv' with h1 _ h2
  injection h1 with h1
  injection h1 with h1 _
  subst h1 h2
  rw [List.getElem?_toArray] at hv
  obtain ⟨i, j, z, hj, hz, rfl, hu⟩ := flat_split LkP.len _ o v hv
  have hi : i < n := by
   have := (List.getElem?_eq_some_iff.1 hz).1
   rwa [List.length_replicate] at this
  have ez : z = LkP.zero := by
   rw [List.getElem?_replicate, if_pos hi] at hz
   exact (Option.some.inj hz).symm
  subst ez
  have ho : i * 12 + j < n * 12 := by omega
  refine ⟨lt_of_block hh, ?_, frozen_of_row _ _ _ _ _ hh⟩
  rw [cell_of_row _ _ _ _ _ _ hh]
  rw [List.take_of_length_le (by rw [Array.length_toList, hs]; exact Nat.le_refl _)] at ht
  have ht2 : cur = madeCells LkP.zero.cells.toArray (n * 12) := Array.toList_inj.1 ht
  rw [ht2, madeCells, Array.getElem?_map, Array.getElem?_range, if_pos ho]
  have e1 : LkP.zero.cells.toArray.size = 12 := rfl
  have e2 : (i * 12 + j) % LkP.zero.cells.toArray.size = j := by rw [e1]; omega
  simp only [Option.map_some, e2]
  rw [getElem!_def, List.getElem?_toArray, hu]
/-- it is read as a slice -/
theorem House.locks {g : Nat} {w : World} {Ps : List LkP} (h : House g w Ps) : Locks w (some ⟨g, 0, none⟩) Ps := fun i P hi => by
 have hl : i < Ps.length := (List.getElem?_eq_some_iff.1 hi).1
 refine ⟨g, 0, P.cells, rfl, (h.at hi (List.getElem?_eq_getElem (by rw [LkP.len]; omega : 0 < P.cells.length))).lt, LkP.len P, fun j hj => ?_, rfl, h.ok P (List.mem_of_getElem? hi)⟩
 rw [Nat.zero_add, (h.at hi (List.getElem?_eq_getElem (by rw [LkP.len]; exact hj))).at, List.getElem?_eq_getElem]
theorem dcard1_any (c : Crd) (hc : CFit c) (w : World) : Calls Tryz.prog 56 #[.agg c.cells.toArray] w fun e w' => e = .returned (.bool (!cvB c)) ∧ Below w.heap.size w w' := by
 have b1 : Below w.heap.size w (w.alloc (.cells c.cells.toArray 28)) := (Below.refl _ _).alloc (Nat.le_refl _) _
 have q := cvalid_any c hc (w.alloc (.cells c.cells.toArray 28))
 generalize cvB c = R at *
 unfold Crd.cells at q b1 ⊢
 have ⟨Hq, Hb1, Hhc⟩ := hid3 q b1 hc; clear q b1 hc
 go_enter Tryz.func56, Tryz.ntmps56
 go_wp2_with fail
 refine Hq.out.mono ?_
 rintro e w2 ⟨rfl, b2⟩
 have bb := Hb1.out.trans (b2.mono (by simp))
 have ⟨Hb2, Hbb⟩ := hid2 b2 bb; clear b2 bb
 go_wp2_with fail
 go_ret
 exact ⟨rfl, Hbb.out⟩
set_option maxHeartbeats 2000000 in
theorem dcindex_any (A : Option Addr) (cp n : Nat) (l : List Crd) (hln : l.length = n) (hn : n ≤ 9223372036854775807) (w : World) (hl : Cards w A l) :
  Calls Tryz.prog 74 #[.slice A n cp, .func (.func 56) #[] #[]] w (IdxPost (allV l) w) := by
 generalize hR : allV l = R
 have h0 : R = allV (l.drop 0) := by rw [List.drop_zero]; exact hR.symm
 have ⟨Hhl, Hhln, HhR, Hh0⟩ := hid4 hl hln hR h0; clear hl hln hR h0
 go_enter Tryz.func74, Tryz.ntmps74
 go_wp2_with fail
 go_loopw [8] (fun i wr => ∃ (k : Nat), k ≤ n ∧ i = .int .i64 k ∧ R = allV (l.drop k) ∧ Below w.heap.size w wr) (fun i _ => n - (intOf i).toNat)
 case atStart => exact ⟨0, by omega, rfl, Hh0.out, Below.refl _ _⟩
 case round =>
  obtain ⟨k, hk, rfl, hRk, hb⟩ := hrel
  by_cases hlt : k < n
  ·obtain ⟨c, hc⟩ : ∃ c, l[k]? = some c := ⟨_, List.getElem?_eq_getElem (by rw [Hhln.out]; exact hlt)⟩
   obtain ⟨b, off, rfl, hbl, hf, c0, c1, c2, c3, c4, c5, c6, c7, c8⟩ := (Hhl.out.below hb).at hc
   rw [allV_drop hc] at hRk
   have q := dcard1_any c hf wr
   unfold Crd.cells at q
   generalize cvB c = X at *
   have g1 : (k : Int) < (n : Int) := by omega
   have g0 : (0 : Int) ≤ (k : Int) := by omega
   have ⟨Hq, HhRk, Hhf, Hhc, Hhb⟩ := hid5 q hRk hf hc hb; clear q hRk hf hc hb
   go_wp2_with fail
   refine Hq.out.mono ?_
   rintro e w2 ⟨rfl, b2⟩
   have bb := Hhb.out.trans (b2.mono Hhb.out.size)
   clear c0 c1 c2 c3 c4 c5 c6 c7 c8
   have ⟨Hb2, Hbb⟩ := hid2 b2 bb; clear b2 bb
   cases X with
   | true =>
    go_wp2_with fail
    go_roundw
    case rel => exact ⟨k + 1, by omega, by go_num, by rw [HhRk.out, Bool.true_and], Hbb.out⟩
    case measure => simp [intOf]; omega
   | false =>
    go_wp2_with fail
    go_ret
    exact ⟨k, rfl, by rw [HhRk.out]; simp, by omega, by omega, Hbb.out⟩
  ·have : l.drop k = [] := List.drop_eq_nil_of_le (by rw [Hhln.out]; omega)
   rw [this] at hRk
   have ⟨HhRk, Hhb, Hthis⟩ := hid3 hRk hb this; clear hRk hb this
   go_wp2_with fail
   go_ret
   exact ⟨-1, rfl, by rw [HhRk.out]; rfl, by omega, by omega, Hhb.out⟩
theorem dccontains_any (A : Option Addr) (cp n : Nat) (l : List Crd) (hln : l.length = n) (hn : n ≤ 9223372036854775807) (w : World) (hl : Cards w A l) :
  Calls Tryz.prog 38 #[.slice A n cp, .func (.func 56) #[] #[]] w fun e w' => e = .returned (.bool (!allV l)) ∧ Below w.heap.size w w' := by
 have q := dcindex_any A cp n l hln hn w hl
 generalize allV l = R at *
 unfold IdxPost at q
 have ⟨Hq, Hhl, Hhln⟩ := hid3 q hl hln; clear q hl hln
 go_enter Tryz.func38, Tryz.ntmps38
 go_wp2_with fail
 refine Hq.out.mono ?_
 rintro e w2 ⟨i, rfl, hi, i0, i1, b2⟩
 have Hb2 := Lib.hid b2; clear b2
 cases R with
 | true =>
  have hi2 : ¬ (0 ≤ i) := by simpa using hi
  go_wp2_with fail
  go_ret
  exact ⟨ret_bool (by simp), Hb2.out⟩
 | false =>
  have hi2 : 0 ≤ i := by simpa using hi
  go_wp2_with fail
  go_ret
  exact ⟨ret_bool (by simp), Hb2.out⟩
def cdsB (l : List Crd) : Bool := decide (l.length ≤ 500) && allV l
theorem dcards_any (A : Option Addr) (cp n : Nat) (l : List Crd) (hln : l.length = n) (hn : n ≤ 9223372036854775807) (w : World) (hl : Cards w A l) :
  Calls Tryz.prog 28 #[.slice A n cp] w fun e w' => e = .returned (.bool (cdsB l)) ∧ Below w.heap.size w w' := by
 have q := dccontains_any A cp n l hln hn w hl
 have bb := Below.refl w.heap.size w
 have eB : cdsB l = (decide (n ≤ 500) && allV l) := by rw [cdsB, hln]
 rw [eB]
 generalize allV l = R at *
 by_cases h5 : n ≤ 500
 ·have g1 : decide ((n : Int) ≤ 500) = true := decide_eq_true (by omega)
  have g2 : (n : Int) ≤ 500 := by omega
  have e : decide (n ≤ 500) = true := decide_eq_true h5
  rw [e]
  have ⟨Hq, Hhl, Hhln, HeB, He, Hbb⟩ := hid6 q hl hln eB e bb; clear q hl hln eB e bb
  go_enter Tryz.func28, Tryz.ntmps28
  go_wp2_with fail
  refine Hq.out.mono ?_
  rintro e w2 ⟨rfl, b2⟩
  have Hb2 := Lib.hid b2; clear b2
  go_wp2_with fail
  go_ret
  exact ⟨ret_bool (by simp), Hb2.out⟩
 ·have g1 : decide ((n : Int) ≤ 500) = false := decide_eq_false (by omega)
  have g2 : ¬ (n : Int) ≤ 500 := by omega
  have e : decide (n ≤ 500) = false := decide_eq_false h5
  rw [e]
  have ⟨Hq, Hhl, Hhln, HeB, He, Hbb⟩ := hid6 q hl hln eB e bb; clear q hl hln eB e bb
  go_enter Tryz.func28, Tryz.ntmps28
  go_wp2_with fail
  go_ret
  exact ⟨rfl, Hbb.out⟩
end Go.Proofs.YtclgncaghiinhaaGreatDoor
