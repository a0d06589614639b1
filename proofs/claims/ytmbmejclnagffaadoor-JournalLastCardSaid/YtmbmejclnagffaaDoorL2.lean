/- Statements' helpers: grown. -/
import Derived.Test.YtmbmejclnagffaaDoorChecked
import Derived.WalkKit
import Derived.WalkSpells
import Derived.WalkLawsBesides
import Derived.Deep.QuietTactic
import Derived.BigQuiet
import Derived.BigGuardPart
import Derived.Lib.Hide
import Derived.Below
import Derived.IntWalk
import Derived.Laws.Rows
import Derived.OneCell
import Derived.Outline
import Derived.Deep.RegionHeld3
import Derived.Deep.RegionWith
import Derived.Maps.AppendAt
import Derived.Deep.AppendLies
import Derived.Laws.OwnMore
import Derived.OwnWalk
import Derived.Lib.SlBytesConst
import Derived.ProofKit
import Derived.OpenShut
import Derived.ChangeOld
import Derived.Deep.Matrix
import Derived.DataShut
import Derived.SizedLaws
import Derived.Deep.Slices
import Derived.Deep.CutRange
import Derived.Shelf.Strconv.Itoa0
import Derived.Shelf.Strconv.Itoa1
import Derived.Shelf.LaysM
import Derived.Shelf.Strconv.Itoa2
import Derived.Shelf.Strconv.Itoa3
import Derived.Ground.Names2Prog
import Derived.Shelf.Slices.Clone
import Derived.Test.YtmbmejclnagffaaDoorProg
import Derived.Lib.AppendIntMem
import Derived.Lib.OthersKept
import Derived.RangeFuncNested
import Derived.RangeFuncBound
import Derived.RangeFuncCalls
import Derived.RangeFuncLeaves
import Derived.Shelf.Abstract
import Derived.Shelf.RegionOpen
import Derived.OwnWalkIn
import Derived.TacticsInMore
import Derived.LoopNIn
import Derived.LoopIn
import Derived.BigGuardPartIn
import Derived.DeepKeys
import Derived.Deep.Cut
import Derived.Lib.SmallJoins
import Derived.Test.YtmbmejclnagffaaDoorM1
import Derived.Test.YtmbmejclnagffaaDoorM2
import Derived.Test.YtmbmejclnagffaaDoorM3
import Derived.Test.YtmbmejclnagffaaDoorM4
import Derived.Test.YtmbmejclnagffaaDoorM5
import Derived.Test.YtmbmejclnagffaaDoorM6
import Derived.Test.YtmbmejclnagffaaDoorM7
import Derived.Test.YtmbmejclnagffaaDoorM8
import Derived.Test.YtmbmejclnagffaaDoorM9
import Derived.Test.YtmbmejclnagffaaDoorM10
import Derived.Test.YtmbmejclnagffaaDoorM11
import Derived.Test.YtmbmejclnagffaaDoorM12
import Derived.Test.YtmbmejclnagffaaDoorM13
import Derived.Test.YtmbmejclnagffaaDoorM14
import Derived.Test.YtmbmejclnagffaaDoorM15
import Derived.Test.YtmbmejclnagffaaDoorM16
import Derived.Test.YtmbmejclnagffaaDoorM17
import Derived.Test.YtmbmejclnagffaaDoorM18
import Derived.Test.YtmbmejclnagffaaDoorM19
import Derived.Test.YtmbmejclnagffaaDoorM20
import Derived.Test.YtmbmejclnagffaaDoorM21
import Derived.Test.YtmbmejclnagffaaDoorM22
import Derived.Test.YtmbmejclnagffaaDoorM23
import Derived.Test.YtmbmejclnagffaaDoorM24
import Derived.Test.YtmbmejclnagffaaDoorM25
import Derived.Test.YtmbmejclnagffaaDoorM26
import Derived.Test.YtmbmejclnagffaaDoorM27
import Derived.Test.YtmbmejclnagffaaDoorM28
import Derived.Test.YtmbmejclnagffaaDoorM29
import Derived.Test.YtmbmejclnagffaaDoorM30
import Derived.Test.YtmbmejclnagffaaDoorM31
import Derived.Test.YtmbmejclnagffaaDoorM32
import Derived.Test.YtmbmejclnagffaaDoorM33
import Derived.Test.YtmbmejclnagffaaDoorM34
import Derived.Test.YtmbmejclnagffaaDoorM35
import Derived.Test.YtmbmejclnagffaaDoorM36
import Derived.Test.YtmbmejclnagffaaDoorM37
import Derived.Test.YtmbmejclnagffaaDoorM38
import Derived.Test.YtmbmejclnagffaaDoorM39
import Derived.Test.YtmbmejclnagffaaDoorM40
import Derived.Test.YtmbmejclnagffaaDoorM41
import Derived.Test.YtmbmejclnagffaaDoorM42
import Derived.Test.YtmbmejclnagffaaDoorM43
import Derived.Test.YtmbmejclnagffaaDoorM44
import Derived.Test.YtmbmejclnagffaaDoorM45
import Derived.Test.YtmbmejclnagffaaDoorM46
import Derived.Test.YtmbmejclnagffaaDoorM47
import Derived.Test.YtmbmejclnagffaaDoorM48
import Derived.Test.YtmbmejclnagffaaDoorL1
set_option linter.unusedSimpArgs false
set_option linter.unusedVariables false
set_option maxRecDepth 100000
namespace Go.Proofs.YtmbmejclnagffaaDoor
open Go.RowKit
theorem Clear.of {w : World} {A : Option Addr} {l : List Msg} (h : Msgs w A l) (hi : Nat) : Clear w.heap.size hi A l := ⟨fun b off hne e => by
  obtain ⟨m, hm⟩ : ∃ m, l[0]? = some m := by
    cases l with
    | nil => exact absurd rfl hne
    | cons m r => exact ⟨m, rfl⟩
  obtain ⟨b', off', e', hlt, _⟩ := h.at hm
  rw [e] at e'; injection e' with e'; injection e' with e'; omega, fun m hm b off h1 h2 => by
  obtain ⟨g, e, hg⟩ := (h.all m hm).2.2.lt (List.length_pos_iff.2 h1)
  rw [h2] at e; have e : b = g := Option.some.inj e; omega⟩
/-- what grown hands back -/
def GrownAt (ms : List Msg) (nl : Nat) (party sec : Int) (w : World) (e : Ending) (w' : World) : Prop :=
  ∃ (X : Option Addr) (c : Nat) (ms2 : List Msg) (H : Hd), e = .returned (.tuple #[.agg #[.slice X ms2.length c, .int .i64 H.p, .int .i64 H.n, .int .u64 H.c, .int .i64 H.e, .int .i64 H.s], .bool true]) ∧ Msgs w' X ms2 ∧ Below w.heap.size w w' ∧
    ms <+: ms2 ∧ ms2.length = ms.length + nl ∧ Jok ms2 H party sec ∧ ms2.length ≤ c ∧ c ≤ maxLen
set_option maxRecDepth 100000 in
set_option maxHeartbeats 32000000 in
theorem jgrown_any (A : Option Addr) (cp n : Nat) (ms : List Msg) (h : Hd) (party : Int) (E : Option Addr) (ce N : Nat) (l : List Ent) (sec : Int) (hln : ms.length = n) (hcp : n ≤ cp ∧ cp ≤ maxLen) (hlN : l.length = N) (hnN : n + N ≤ 100) (hj : Jok ms h party sec) (hp : ptyB party = true) (hs : wthB sec 1 = true)
    (w : World) (hl : Msgs w A ms) (hxs : Ents w E l) (ht : Tab w) (hc : Cnt w) :
    Calls Tryd.prog 15 #[.agg #[.slice A n cp, .int .i64 h.p, .int .i64 h.n, .int .u64 h.c, .int .i64 h.e, .int .i64 h.s], .int .i64 party, .slice E N ce, .int .i64 sec] w (GrownAt ms N party sec w) := by
  obtain ⟨w0, hw0⟩ : ∃ W, (w.alloc (.cells #[.slice A n cp, .int .i64 h.p, .int .i64 h.n, .int .u64 h.c, .int .i64 h.e, .int .i64 h.s] 35)).alloc (.cells #[.slice none 0 0, .int .i64 0, .int .i64 0, .int .u64 0, .int .i64 0, .int .i64 0] 35) = W := ⟨_, rfl⟩
  have bb0 : Below w.heap.size w w0 := by rw [← hw0]; exact ((Below.refl _ _).alloc (Nat.le_refl _) _).alloc (by simp) _
  have k0 : Blk w0 w.heap.size #[.slice A n cp, .int .i64 h.p, .int .i64 h.n, .int .u64 h.c, .int .i64 h.e, .int .i64 h.s] := by rw [← hw0]; exact (blk_new rfl).alloc _
  have r0 : Blk w0 (w.heap.size + 1) #[.slice none 0 0, .int .i64 0, .int .i64 0, .int .u64 0, .int .i64 0, .int .i64 0] := by rw [← hw0]; exact blk_new (by simp)
  have l0 := hl.below bb0
  have s0 : w.heap.size + 1 < w0.heap.size := by rw [← hw0]; simp
  have cl0 := Clear.of hl w0.heap.size
  have ⟨H_hw0, H_bb0, H_k0, H_r0, H_l0, H_hl, H_ht, H_hc⟩ := hid8 hw0 bb0 k0 r0 l0 hl ht hc; clear hw0 bb0 k0 r0 l0 hl ht hc; have ⟨H_hxs, H_hln, H_hlN, H_hj, H_cl0⟩ := hid5 hxs hln hlN hj cl0; clear hxs hln hlN hj cl0
  go_enter Tryd.func15, Tryd.ntmps15
  go_upto_region 1 with (fail)
  rw [H_hw0.out]
  go_upto_region 2 with (fail)
  go_loopw [16] (fun i wr => ∃ (k : Nat) (X : Option Addr) (c : Nat) (m2 : List Msg) (H : Hd), k ≤ N ∧ i = .int .i64 k ∧ Blk wr w.heap.size #[.slice X m2.length c, .int .i64 H.p, .int .i64 H.n, .int .u64 H.c, .int .i64 H.e, .int .i64 H.s] ∧ Blk wr (w.heap.size + 1) #[.slice none 0 0, .int .i64 0, .int .i64 0, .int .u64 0, .int .i64 0, .int .i64 0] ∧ Msgs wr X m2 ∧ ms <+: m2 ∧ m2.length = n + k ∧ Jok m2 H party sec ∧ Clear w.heap.size w0.heap.size X m2 ∧ Below w.heap.size w wr ∧ w0.heap.size ≤ wr.heap.size ∧ n + k ≤ c ∧ c ≤ maxLen) (fun i _ => N - (intOf i).toNat)
  case atStart => exact ⟨0, A, cp, ms, h, by omega, rfl, by rw [H_hln.out]; exact H_k0.out, H_r0.out, H_l0.out, List.prefix_refl _, by rw [H_hln.out]; rfl, H_hj.out, H_cl0.out, H_bb0.out, Nat.le_refl _, hcp.1, hcp.2⟩
  case round =>
    obtain ⟨k, X, c, m2, H, hk, rfl, kr, rr, lr, hpre, hm2, hjr, clr, bz, sz0, cpr1, cpr2⟩ := hrel
    obtain ⟨q, hq⟩ : ∃ q, m2.length = q := ⟨_, rfl⟩
    rw [hq] at kr hm2
    by_cases hlt : k < N
    · have g1 : (k : Int) < (N : Int) := by omega
      have g2 : (0 : Int) ≤ (k : Int) := by omega
      obtain ⟨x, hx⟩ : ∃ x, l[k]? = some x := ⟨_, List.getElem?_eq_getElem (by rw [H_hlN.out]; exact hlt)⟩
      obtain ⟨b, off, hE, hbl, ⟨fx, _, xi⟩, e0, e1, e2⟩ := (H_hxs.out.below bz).at hx
      subst hE
      have q1 := fun W h1 h2 h3 h4 => jput_any X c q m2 H party x x.a.length sec hq (by omega) hjr.fit rfl hjr.frm hp hs fx (by have := hjr.last; omega) W h1 h2 h3 h4
      unfold PutAt at q1
      rw [hq] at q1
      have hjp := fun B kc => hjr.put hp hs fx (by omega) B kc
      rw [hq] at hjp
      have tr := H_ht.out.below bz
      have mr := H_hc.out.below bz
      generalize x.a.length = xn at *
      generalize x.t = xt at *
      generalize x.k = xk at *
      generalize H.p = p1 at *
      generalize H.n = p2 at *
      generalize H.c = p3 at *
      generalize H.e = p4 at *
      generalize H.s = p5 at *
      have q100 : q ≤ 99 := by omega
      have ⟨H_hx, H_fx, H_xi, H_q1, H_hjp, H_kr, H_rr, H_lr⟩ := hid8 hx fx xi q1 hjp kr rr lr; clear hx fx xi q1 hjp kr rr lr; have ⟨H_hpre, H_hjr, H_clr, H_bz, H_hq, H_tr, H_mr, H_hm2⟩ := hid8 hpre hjr clr bz hq tr mr hm2; clear hpre hjr clr bz hq tr mr hm2; have ⟨H_cpr1, H_cpr2⟩ := hid2 cpr1 cpr2; clear cpr1 cpr2
      go_upto_region 4 with (fail)
      obtain ⟨w2, hw2⟩ : ∃ W, wr.alloc (.cells #[.int .u16 xt, .int .u8 xk, .slice x.A xn x.c] 39) = W := ⟨_, rfl⟩
      rw [hw2]
      have d2 : Below wr.heap.size wr w2 := by rw [← hw2]; exact (Below.refl _ _).alloc (Nat.le_refl _) _
      have y2 : Blk w2 wr.heap.size #[.int .u16 xt, .int .u8 xk, .slice x.A xn x.c] := by rw [← hw2]; exact blk_new rfl
      have bb2 := H_bz.out.trans (d2.mono H_bz.out.size)
      have k2 := H_kr.out.below d2
      have r2 := H_rr.out.below d2
      have l2 := H_lr.out.below d2
      have i2 := H_xi.out.below d2
      have t2 := H_tr.out.below d2
      have m2' := H_mr.out.below d2
      have s2 := d2.size
      clear e0 e1 e2
      have ⟨H_hw2, H_d2, H_y2, H_bb2, H_k2, H_r2, H_l2, H_i2⟩ := hid8 hw2 d2 y2 bb2 k2 r2 l2 i2; clear hw2 d2 y2 bb2 k2 r2 l2 i2; have ⟨H_t2, H_m2'⟩ := hid2 t2 m2'; clear t2 m2'
      have u0 := (H_k2.out 0 _ rfl).at
      have u1 := (H_k2.out 1 _ rfl).at
      have u2 := (H_k2.out 2 _ rfl).at
      have u3 := (H_k2.out 3 _ rfl).at
      have u4 := (H_k2.out 4 _ rfl).at
      have u5 := (H_k2.out 5 _ rfl).at
      have v0 := (H_y2.out 0 _ rfl).at
      have v1 := (H_y2.out 1 _ rfl).at
      have v2 := (H_y2.out 2 _ rfl).at
      go_wp2_with fail
      (with_reducible refine (H_q1.out _ H_l2.out H_i2.out H_t2.out H_m2'.out).mono ?_)
      rintro e w5 ⟨X5, c5, B5, kc5, H5, hH5, rfl, x5, b5, fX, fB, cp1, cp2⟩
      have bb5 := H_bb2.out.trans (b5.mono H_bb2.out.size)
      have k5 := H_k2.out.below b5
      have r5 := H_r2.out.below b5
      have s5 := b5.size
      have hj5 := H_hjp.out B5 kc5
      rw [← hH5] at hj5
      have cl5 : Clear w.heap.size w0.heap.size X5 (m2 ++ [putM m2 party x B5 kc5]) := H_clr.out.put (fun b off e => by have := fX b off e; omega) (fun b off h1 h2 => by have := fB b off h1 h2; omega)
      have ln5 : (m2 ++ [putM m2 party x B5 kc5]).length = q + 1 := by rw [List.length_append, H_hq.out]; rfl
      have pre5 : ms <+: m2 ++ [putM m2 party x B5 kc5] := H_hpre.out.trans (List.prefix_append _ _)
      generalize m2 ++ [putM m2 party x B5 kc5] = M5 at *
      generalize ha1 : H5.p = a1 at *
      generalize ha2 : H5.n = a2 at *
      generalize ha3 : H5.c = a3 at *
      generalize ha4 : H5.e = a4 at *
      generalize ha5 : H5.s = a5 at *
      clear u0 u1 u2 u3 u4 u5
      clear v0 v1 v2
      have ⟨H_cp1, H_cp2, H_ha1, H_ha2, H_ha3, H_ha4, H_ha5, H_hH5⟩ := hid8 cp1 cp2 ha1 ha2 ha3 ha4 ha5 hH5; clear cp1 cp2 ha1 ha2 ha3 ha4 ha5 hH5; have ⟨H_x5, H_b5, H_fX, H_fB, H_bb5, H_k5, H_r5, H_hj5⟩ := hid8 x5 b5 fX fB bb5 k5 r5 hj5; clear x5 b5 fX fB bb5 k5 r5 hj5; have ⟨H_cl5, H_ln5, H_pre5⟩ := hid3 cl5 ln5 pre5; clear cl5 ln5 pre5
      go_upto_region 5 with (fail)
      obtain ⟨w6, hw6⟩ : ∃ W, w5.alloc (.cells #[.slice X5 (q + 1) c5, .int .i64 a1, .int .i64 a2, .int .u64 a3, .int .i64 a4, .int .i64 a5] 35) = W := ⟨_, rfl⟩
      rw [hw6]
      have d6 : Below w5.heap.size w5 w6 := by rw [← hw6]; exact (Below.refl _ _).alloc (Nat.le_refl _) _
      have y6 : Blk w6 w5.heap.size #[.slice X5 (q + 1) c5, .int .i64 a1, .int .i64 a2, .int .u64 a3, .int .i64 a4, .int .i64 a5] := by rw [← hw6]; exact blk_new rfl
      have bb6 := H_bb5.out.trans (d6.mono H_bb5.out.size)
      have k6 := H_k5.out.below d6
      have r6 := H_r5.out.below d6
      have x6 := H_x5.out.below d6
      have s6 := d6.size
      have clm := H_cl5.out.mem (r := w.heap.size) (by omega)
      have rn : Blk (putL w6 w.heap.size 0 [.slice X5 (q + 1) c5, .int .i64 a1, .int .i64 a2, .int .u64 a3, .int .i64 a4, .int .i64 a5]) (w.heap.size + 1) #[.slice none 0 0, .int .i64 0, .int .i64 0, .int .u64 0, .int .i64 0, .int .i64 0] := putL_far r6 (by omega) 0 _
      have kn := putL_blk k6 [.slice X5 (q + 1) c5, .int .i64 a1, .int .i64 a2, .int .u64 a3, .int .i64 a4, .int .i64 a5] (by simp)
      have xn6 := putL_msgs clm.1 clm.2 [.slice X5 (q + 1) c5, .int .i64 a1, .int .i64 a2, .int .u64 a3, .int .i64 a4, .int .i64 a5] w6 0 x6
      have bn : Below w.heap.size w (putL w6 w.heap.size 0 [.slice X5 (q + 1) c5, .int .i64 a1, .int .i64 a2, .int .u64 a3, .int .i64 a4, .int .i64 a5]) := putL_below (Nat.le_refl _) _ _ _ bb6
      have zn : (putL w6 w.heap.size 0 [.slice X5 (q + 1) c5, .int .i64 a1, .int .i64 a2, .int .u64 a3, .int .i64 a4, .int .i64 a5]).heap.size = w6.heap.size := putL_size _ _ _
      have zle : w0.heap.size ≤ (putL w6 w.heap.size 0 [.slice X5 (q + 1) c5, .int .i64 a1, .int .i64 a2, .int .u64 a3, .int .i64 a4, .int .i64 a5]).heap.size := by rw [zn]; omega
      clear zn
      simp only [putL, Nat.reduceAdd] at rn kn xn6 bn zle
      have hne1 : w5.heap.size ≠ w.heap.size := by omega
      have ⟨H_hw6, H_d6, H_y6, H_bb6, H_k6, H_r6, H_x6, H_clm⟩ := hid8 hw6 d6 y6 bb6 k6 r6 x6 clm; clear hw6 d6 y6 bb6 k6 r6 x6 clm; have ⟨H_rn, H_kn, H_xn6, H_bn, H_zle⟩ := hid5 rn kn xn6 bn zle; clear rn kn xn6 bn zle
      have u0 := (H_y6.out 0 _ rfl).at
      have u1 := (H_y6.out 1 _ rfl).at
      have u2 := (H_y6.out 2 _ rfl).at
      have u3 := (H_y6.out 3 _ rfl).at
      have u4 := (H_y6.out 4 _ rfl).at
      have u5 := (H_y6.out 5 _ rfl).at
      have y0 := (H_k6.out 0 _ rfl).at
      have y1 := (H_k6.out 1 _ rfl).at
      have y2 := (H_k6.out 2 _ rfl).at
      have y3 := (H_k6.out 3 _ rfl).at
      have y4 := (H_k6.out 4 _ rfl).at
      have y5 := (H_k6.out 5 _ rfl).at
      have f0 := (H_k6.out 0 _ rfl).free
      have f1 := (H_k6.out 1 _ rfl).free
      have f2 := (H_k6.out 2 _ rfl).free
      have f3 := (H_k6.out 3 _ rfl).free
      have f4 := (H_k6.out 4 _ rfl).free
      have f5 := (H_k6.out 5 _ rfl).free
      have lz := (H_k6.out 0 _ rfl).lt
      go_wp2_with fail
      go_roundw
      case rel => exact ⟨k + 1, X5, c5, M5, H5, by omega, by go_num, by rw [H_ln5.out, H_ha1.out, H_ha2.out, H_ha3.out, H_ha4.out, H_ha5.out]; exact H_kn.out, H_rn.out, H_xn6.out, H_pre5.out, by rw [H_ln5.out, H_hm2.out]; omega, H_hj5.out, H_cl5.out, H_bn.out, H_zle.out, by have := H_cp1.out; have := H_hm2.out; omega, H_cp2.out⟩
      case measure => simp [intOf]; omega
    · have g1 : ¬ (k : Int) < (N : Int) := by omega
      have hkN : k = N := by omega
      subst hkN
      have clm := clr.mem (r := w.heap.size + 1) (by omega)
      have fin : ∀ W, Msgs W X m2 → Below w.heap.size w W → GrownAt ms k party sec w (.returned (.tuple #[.agg #[.slice X q c, .int .i64 H.p, .int .i64 H.n, .int .u64 H.c, .int .i64 H.e, .int .i64 H.s], .bool true])) W := fun W h1 h2 => ⟨X, c, m2, H, by rw [hq], h1, h2, hpre, by rw [hq, H_hln.out]; exact hm2, hjr, by rw [hq, hm2]; exact cpr1, cpr2⟩
      generalize H.p = p1 at *
      generalize H.n = p2 at *
      generalize H.c = p3 at *
      generalize H.e = p4 at *
      generalize H.s = p5 at *
      have gw9 : Below w.heap.size w (putL wr (w.heap.size + 1) 0 [.slice X q c, .int .i64 p1, .int .i64 p2, .int .u64 p3, .int .i64 p4, .int .i64 p5]) := putL_below (by omega) _ _ _ bz
      have gx9 := putL_msgs clm.1 clm.2 [.slice X q c, .int .i64 p1, .int .i64 p2, .int .u64 p3, .int .i64 p4, .int .i64 p5] wr 0 lr
      simp only [putL, Nat.reduceAdd] at gw9 gx9
      have hne1 : w.heap.size ≠ w.heap.size + 1 := by omega
      have lk := (kr 0 _ rfl).lt
      have ll := (rr 0 _ rfl).lt
      have ⟨H_kr, H_rr, H_lr, H_hpre, H_hjr, H_clr, H_bz, H_hq⟩ := hid8 kr rr lr hpre hjr clr bz hq; clear kr rr lr hpre hjr clr bz hq; have ⟨H_clm, H_fin, H_gw9, H_gx9, H_hm2, H_cpr1, H_cpr2⟩ := hid7 clm fin gw9 gx9 hm2 cpr1 cpr2; clear clm fin gw9 gx9 hm2 cpr1 cpr2
      have u0 := (H_kr.out 0 _ rfl).at
      have u1 := (H_kr.out 1 _ rfl).at
      have u2 := (H_kr.out 2 _ rfl).at
      have u3 := (H_kr.out 3 _ rfl).at
      have u4 := (H_kr.out 4 _ rfl).at
      have u5 := (H_kr.out 5 _ rfl).at
      have y0 := (H_rr.out 0 _ rfl).at
      have y1 := (H_rr.out 1 _ rfl).at
      have y2 := (H_rr.out 2 _ rfl).at
      have y3 := (H_rr.out 3 _ rfl).at
      have y4 := (H_rr.out 4 _ rfl).at
      have y5 := (H_rr.out 5 _ rfl).at
      have f0 := (H_rr.out 0 _ rfl).free
      have f1 := (H_rr.out 1 _ rfl).free
      have f2 := (H_rr.out 2 _ rfl).free
      have f3 := (H_rr.out 3 _ rfl).free
      have f4 := (H_rr.out 4 _ rfl).free
      have f5 := (H_rr.out 5 _ rfl).free
      go_wp2_with fail
      refine bodyPost_ret (v := .tuple #[.agg #[.slice X q c, .int .i64 p1, .int .i64 p2, .int .u64 p3, .int .i64 p4, .int .i64 p5], .bool true]) (by simp [results, Tryd.results15, go_sem, *]) rfl (H_fin.out _ H_gx9.out H_gw9.out)
end Go.Proofs.YtmbmejclnagffaaDoor
