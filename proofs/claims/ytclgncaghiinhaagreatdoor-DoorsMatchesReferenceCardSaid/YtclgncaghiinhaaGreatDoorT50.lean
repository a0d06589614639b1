/- The reference of doors: Run. -/
import Derived.Test.YtclgncaghiinhaaGreatDoorT41
import Derived.Test.YtclgncaghiinhaaGreatDoorT42
import Derived.Test.YtclgncaghiinhaaGreatDoorT43
import Derived.Test.YtclgncaghiinhaaGreatDoorT49
set_option linter.unusedSimpArgs false
set_option linter.unusedVariables false
set_option maxRecDepth 100000
namespace Go.Proofs.YtclgncaghiinhaaGreatDoor
open Go.RowKit
theorem rrun_bad (A : Option Addr) (cp n : Nat) (Ps : List LkP) (X : Option Addr) (cx m : Nat) (cs : List Crd) (Y : Option Addr) (cy k : Nat) (ss : List Sh4) (w0 : World) (hn : Ps.length = n) (hm : cs.length = m) (hk : ss.length = k) (hn9 : n ≤ 100) (hm9 : m ≤ 1000) (hk9 : k ≤ 100)
  (hl : Locks w0 A Ps) (hcs : Cards w0 X cs) (hss : Shows w0 Y ss) (hB : runB (Ps.map LkP.L) cs ss = false) :
  Calls Tryz.prog 10 #[.slice A n cp, .slice X m cx, .slice Y k cy] w0 (RunRes [] [] 1 w0) := by
 have q1 := rform_any A cp n Ps X cx m cs Y cy k ss w0 hn hm hk hn9 hm9 hk9 hl hcs hss
 rw [(ran_not hB).2.1] at q1
 have bb0 := Below.refl w0.heap.size w0
 have ⟨Hq1, Hbb0, Hhl, Hhcs, Hhss, HhB, Hhn, Hhm⟩ := hid8 q1 bb0 hl hcs hss hB hn hm; clear q1 bb0 hl hcs hss hB hn hm; have Hhk := Lib.hid hk; clear hk
 go_enter Tryz.func10, Tryz.ntmps10
 go_wp2_with fail
 (with_reducible refine (Hq1.out).mono ?_)
 rintro e w1 ⟨rfl, b1⟩
 have c1 : Below w0.heap.size w0 w1 := Below.trans belt (b1.mono omh)
 have s1 := c1.size
 have bb1 := Hbb0.out.trans (c1.mono Hbb0.out.size)
 have ⟨Hb1, Hc1, Hbb1⟩ := hid3 b1 c1 bb1; clear b1 c1 bb1
 go_wp2_with fail
 refine bodyPost_ret (v := .tuple #[.slice none 0 0, .slice none 0 0, .int .i64 1]) (by simp [results, Tryz.results10, go_sem, *]) rfl (runRes_nil Hbb1.out)
/-- one step of a run, in plain words -/
theorem run_step {cs : List Crd} {ls : List Lk} {l : List Sh4} {j : Nat} {s : Sh4} (h : l[j]? = some s) : runS cs ls ((l.take (j + 1)).map Sh4.shw) = oneS cs (runS cs ls ((l.take j).map Sh4.shw)) s.shw ∧ runO cs ls ((l.take (j + 1)).map Sh4.shw) = runO cs ls ((l.take j).map Sh4.shw) ++ [oneO cs (runS cs ls ((l.take j).map Sh4.shw)) s.shw] := by
 have e : l.take (j + 1) = l.take j ++ [s] := by rw [List.take_add_one, h]; rfl
 rw [e]; exact run_snoc cs ls (l.take j) s
theorem off_row {w : World} {base : Nat} {A : Option Addr} {c g : Nat} {l : List Bool} (h : OwnRows 4 1 boolC w base A c l) (hg : g < base) : blockOf A = none ∨ blockOf A ≠ some g := by
 by_cases hO : blockOf A = none
 ·exact .inl hO
 ·exact .inr fun e => by have := (h.lt g e).1; omega
/-- the end of a round: the answer is laid behind the others -/
theorem round_end {B0 : Nat} {w0 w4 wA w11 : World} {g c : Nat} {O O9 : Option Addr} {RO : List Bool} {Qs : List LkP} {i : Nat} {P : LkP} {o : Obj}
  (ow : OwnRows 4 1 boolC wA B0 O c RO) (h : House g wA (Qs.set i P)) (_g : w4.grownBy wA (some g)) (e5 : ∀ Q ∈ Qs, ∀ r, blockOf O = some r → Q.Far r) (eP : ∀ r, blockOf O = some r → P.Far r) (hg : g < B0) (hB : w0.heap.size ≤ B0 ∧ B0 ≤ wA.heap.size)
  (gr : (wA.alloc o).grownBy w11 (blockOf O)) (ho : blockOf O9 = blockOf O ∨ blockOf O9 = some (wA.heap.size + 1)) (lo : Below w0.heap.size w0 wA) :
  House g w11 (Qs.set i P) ∧ (∀ Q ∈ Qs.set i P, ∀ r, blockOf O9 = some r → Q.Far r) ∧ Below w0.heap.size w0 w11 ∧ B0 ≤ w11.heap.size := by
 have hH3 := h.below ((Below.refl _ _).alloc (Nat.le_refl _) o)
 have farO : ∀ r, blockOf O = some r → ∀ Q ∈ Qs.set i P, Q.Far r := fun r e Q hQ => by
  rcases List.mem_or_eq_of_mem_set hQ with h1 | h1
  ·exact e5 Q h1 r e
  ·rw [h1]; exact eP r e
 have s1 := lo.size
 have s2 := gr.size
 simp only [World.size_alloc] at s2
 refine ⟨hH3.grownO gr (fun r e h' => ?_) farO, fun Q hQ r e => ?_, ?_, by omega⟩
 ·subst h'
  have := (ow.lt _ e).1
  omega
 ·rcases ho with h' | h'
  ·exact farO r (by rw [← h']; exact e) Q hQ
  ·rw [h', ← World.size_alloc wA o] at e
   cases e
   exact (hH3.ok Q hQ).far (Nat.le_refl _)
 ·exact (lo.alloc s1 o).grown gr (by simp only [World.size_alloc]; omega) (fun k e => by have := (ow.lt k e).1; omega)
set_option maxRecDepth 100000 in
set_option maxHeartbeats 64000000 in
theorem rrun_ok (A : Option Addr) (cp n : Nat) (Ps : List LkP) (X : Option Addr) (cx m : Nat) (cs : List Crd) (Y : Option Addr) (cy k : Nat) (ss : List Sh4) (w0 : World) (hn : Ps.length = n) (hm : cs.length = m) (hk : ss.length = k) (hn9 : n ≤ 100) (hm9 : m ≤ 1000) (hk9 : k ≤ 100)
  (hl : Locks w0 A Ps) (hcs : Cards w0 X cs) (hss : Shows w0 Y ss) (hB : runB (Ps.map LkP.L) cs ss = true) :
  Calls Tryz.prog 10 #[.slice A n cp, .slice X m cx, .slice Y k cy] w0 (RunRes (runS cs (Ps.map LkP.L) (ss.map Sh4.shw)) (runO cs (Ps.map LkP.L) (ss.map Sh4.shw)) 0 w0) := by
 have q1 := rform_any A cp n Ps X cx m cs Y cy k ss w0 hn hm hk hn9 hm9 hk9 hl hcs hss
 rw [(ran hB).2.2.1] at q1
 have hgd := run_good hB
 have hokP : ∀ P ∈ Ps, P.Ok w0 := fun P hP => by
  obtain ⟨i, hi, he⟩ := List.mem_iff_getElem.1 hP
  obtain ⟨_, _, _, _, hh, _⟩ := hl.at (List.getElem?_eq_some_iff.2 ⟨hi, he⟩)
  exact hh
 have bb0 := Below.refl w0.heap.size w0
 obtain ⟨i0, hi0, hz0, hz1, hz2⟩ := info_parts infoLock
 obtain ⟨iB, hiB, hzB0, hzB1, hzB2⟩ := info_parts infoBool
 have ⟨Hq1, Hbb0, Hhl, Hhcs, Hhss, HhB, Hhgd, HhokP⟩ := hid8 q1 bb0 hl hcs hss hB hgd hokP; clear q1 bb0 hl hcs hss hB hgd hokP; have ⟨Hhn, Hhm, Hhk, Hhi0, Hhz0, Hhz1, Hhz2, HhiB⟩ := hid8 hn hm hk hi0 hz0 hz1 hz2 hiB; clear hn hm hk hi0 hz0 hz1 hz2 hiB; have ⟨HhzB0, HhzB1, HhzB2⟩ := hid3 hzB0 hzB1 hzB2; clear hzB0 hzB1 hzB2
 go_enter Tryz.func10, Tryz.ntmps10
 go_wp2_with fail
 (with_reducible refine (Hq1.out).mono ?_)
 rintro e w1 ⟨rfl, b1⟩
 have c1 : Below w0.heap.size w0 w1 := Below.trans belt (b1.mono omh)
 have s1 := c1.size
 have bb1 := Hbb0.out.trans (c1.mono Hbb0.out.size)
 have ⟨Hb1, Hc1, Hbb1⟩ := hid3 b1 c1 bb1; clear b1 c1 bb1
 go_upto_region 4 with (fail)
 refine wp_region_list ?_
 (try simp only [List.toList_toArray])
 refine wpList_plain rfl fun K hK => ?_
 go_simp
 refine hK _ _ ?_
 clear hK K
 refine wpList_plain rfl fun K hK => ?_
 go_simp
 refine hK _ _ ?_
 clear hK K
 (try simp only [apz])
 have own0 : OwnL (w1.alloc (.cells #[] 48)) w1.heap.size (some ⟨w1.heap.size, 0, none⟩) 0 [] := World.ownsRow_made w1 #[] 0 (Nat.le_refl _) (Nat.zero_le _) (by simp)
 have s01 := Hbb1.out.size
 have lk1 : Locks (w1.alloc (.cells #[] 48)) A Ps := Hhl.out.below (Hbb1.out.alloc s01 _)
 refine wp_app_gen (At := LkpAt) _ rfl (.tmp 26) (.tmp 27) _ rfl i0 _ 128 Tryz.underlying22 Hhi0.out Hhz0.out Hhz1.out Hhz2.out rfl (by decide) LkP.len lkp_one (fun _ _ h => h.1) 0 rfl rfl own0 A cp n Ps Hhn.out rfl lk1 (by unfold maxLen; omega) (by omega) (by simp) ?_
 intro A3 c3 w3 ow3 gr3 _
 have b3 : Below w1.heap.size w1 w3 := (alloc_below w1 (.cells #[] 48)).grown gr3 (by simp) (fun r e => by cases e; exact Nat.le_refl _)
 have bb3 := Hbb1.out.trans (b3.mono s01)
 obtain ⟨g, hg, hA3, hh3⟩ := OwnL.house (l := Ps) ow3 b3.size (fun P hP => (HhokP.out P hP).below bb3) (fun P hP g hg => (HhokP.out P hP).far (by omega))
 have cap3 : n ≤ c3 ∧ c3 ≤ maxLen := by have := OwnRows.cap (l := Ps) ow3; rw [Hhn.out] at this; exact this
 have s03 := bb3.size
 clear own0 lk1 gr3 ow3
 rw [Nat.zero_add]
 have ⟨Hb3, Hbb3, HhA3, Hhh3, Hcap3⟩ := hid5 b3 bb3 hA3 hh3 cap3; clear b3 bb3 hA3 hh3 cap3
 go_wp2_with fail
 go_loopw [11, 12] (fun u i wr => ∃ (j : Nat) (O : Option Addr) (c : Nat) (Qs : List LkP), j ≤ k ∧ u = .slice O j c ∧ i = .int .i64 j ∧ Qs.map LkP.L = runS cs (Ps.map LkP.L) ((ss.take j).map Sh4.shw) ∧ House g wr Qs ∧ OwnB wr w3.heap.size O c (runO cs (Ps.map LkP.L) ((ss.take j).map Sh4.shw)) ∧ (∀ P ∈ Qs, ∀ r, blockOf O = some r → P.Far r) ∧ Below w0.heap.size w0 wr ∧ w3.heap.size ≤ wr.heap.size) (fun _ i _ => k - (intOf i).toNat)
 case atStart => exact ⟨0, none, 0, Ps, by omega, rfl, rfl, rfl, Hhh3.out, OwnRows.nil _ _ _ _ _, (fun _ _ _ e => by cases e), Hbb3.out, Nat.le_refl _⟩
 case round =>
  obtain ⟨j, O, c, Qs, hj, rfl, rfl, e1, e2, e4, e5, lo, szr⟩ := hrel
  obtain ⟨w4, hw4⟩ : ∃ W, wr = W := ⟨_, rfl⟩
  rw [hw4] at e2 e4 lo szr ⊢
  have s04 := lo.size
  have lQs : Qs.length = n := by
   have := congrArg List.length e1
   rw [List.length_map, runS_len, List.length_map, Hhn.out] at this; exact this
  have lro : (runO cs (Ps.map LkP.L) ((ss.take j).map Sh4.shw)).length = j := by rw [runO_len, List.length_map, List.length_take, Hhk.out]; omega
  by_cases hlt : j < k
  rotate_left
  ·have g1 : ¬ (j : Int) < (k : Int) := by omega
   have ej : k = j := by omega
   subst ej
   rw [List.take_of_length_le (by rw [Hhk.out]; exact Nat.le_refl _)] at e1 e4 lro
   have lrs : (runS cs (Ps.map LkP.L) (ss.map Sh4.shw)).length = n := by rw [← e1, List.length_map]; exact lQs
   have lks : Locks w4 A3 Qs := by
    by_cases hP : Ps = []
    ·have : Qs = [] := List.eq_nil_of_length_eq_zero (by rw [lQs, ← Hhn.out, hP]; rfl)
     rw [this]; exact RowsAt.nil
    ·rw [(HhA3.out hP).1]; exact e2.locks
   have bls := e4.bls
   have ⟨He1, He2, He4, He5, Hlo, Hhw4, Hlks, Hbls⟩ := hid8 e1 e2 e4 e5 lo hw4 lks bls; clear e1 e2 e4 e5 lo hw4 lks bls; have ⟨Hlro, Hlrs⟩ := hid2 lro lrs; clear lro lrs
   go_wp2_with fail
   refine bodyPost_ret (v := .tuple #[.slice A3 n c3, .slice O k c, .int .i64 0]) (by simp [results, Tryz.results10, go_sem, *]) rfl ⟨A3, c3, Qs, O, c, by rw [Hlrs.out, Hlro.out], He1.out, Hlks.out, Hbls.out, by rw [Hlrs.out]; exact Hcap3.out.1, Hcap3.out.2, Hlo.out⟩
  have g1 : (j : Int) < (k : Int) := by omega
  have g0 : (0 : Int) ≤ (j : Int) := by omega
  obtain ⟨s, hs⟩ : ∃ s, ss[j]? = some s := ⟨_, List.getElem?_eq_getElem (by rw [Hhk.out]; exact hlt)⟩
  obtain ⟨i1, j1, es1, es2, hi1, hj1, ew⟩ := good_nat (Hhgd.out.2.2 s (List.mem_of_getElem? hs))
  rw [List.length_map, Hhn.out] at hi1
  rw [Hhm.out] at hj1
  have hPne : Ps ≠ [] := fun e => by have := Hhn.out; rw [e] at this; simp at this; omega
  obtain ⟨eA3, zg3⟩ := HhA3.out hPne
  subst eA3
  obtain ⟨⟨L, A2, p, B, r⟩, hQ⟩ : ∃ P, Qs[i1]? = some P := ⟨_, List.getElem?_eq_getElem (by rw [lQs]; exact hi1)⟩
  obtain ⟨cd, hcd⟩ : ∃ c, cs[j1]? = some c := ⟨_, List.getElem?_eq_getElem (by rw [Hhm.out]; exact hj1)⟩
  have hLk : lkD (runS cs (Ps.map LkP.L) ((ss.take j).map Sh4.shw)) i1 = L := lkD_at (by rw [← e1, List.getElem?_map, hQ]; rfl)
  have hv : lvB L = true := by
   have := runS_v (cs := cs) ((ss.take j).map Sh4.shw) Hhgd.out.1 (fun s hs => by
    obtain ⟨x, hx, rfl⟩ := List.mem_map.1 hs
    have gx := Hhgd.out.2.2 x (List.mem_of_mem_take hx)
    have a0 := gx.a0; have a1 := gx.a1
    show x.a.toNat < _
    omega) i1 (by rw [runS_len, List.length_map, Hhn.out]; exact hi1)
   rwa [hLk] at this
  obtain ⟨st1, st2⟩ := run_step (cs := cs) (ls := Ps.map LkP.L) hs
  rw [ew] at st1 st2
  simp only [oneS, oneO, hLk, cdD_at hcd] at st1 st2
  rw [← e1] at st1
  have hok := e2.ok _ (List.mem_of_getElem? hQ)
  have hfr := e2.far _ (List.mem_of_getElem? hQ)
  have hc := cards_all Hhcs.out hcd
  have pw := pw_of hv true
  have q2 := fun W (h : Below w4.heap.size w4 W) => rlpower_any L true A2 L.x.l.length p B L.y.l.length r W (hok.below h).x (hok.below h).y
  rw [pw.2, pw.1] at q2
  have q3 := fun W A p B r (h1 : IntsAt W A .i64 L.x.l) (h2 : IntsAt W B .i64 L.y.l) => rshow_any { L with up := true } cd s.c s.d A L.x.l.length p B L.y.l.length r W (hok.fx.is h1) (hok.fy.is h2) hc
  have fZ := sh_fit (l := { L with up := true }) (c := cd) (t := s.c) (a := s.d) hc hok.fx hok.fy
  have eO : (shE { L with up := true } cd s.c s.d = 0 → (stp L cd s.c s.d) = (shR { L with up := true } cd s.c s.d, shO { L with up := true } cd s.c s.d)) ∧ (shE { L with up := true } cd s.c s.d ≠ 0 → (stp L cd s.c s.d) = ({ L with up := true }, false)) := ⟨fun h => by unfold stp; rw [if_pos h], fun h => by unfold stp; rw [if_neg h]⟩
  generalize shE { L with up := true } cd s.c s.d = E at *
  generalize shR { L with up := true } cd s.c s.d = Z at *
  generalize shO { L with up := true } cd s.c s.d = OZ at *
  obtain ⟨bs, os, rfl, zs, c0, c1, c2, c3'⟩ := (Hhss.out.below lo).at hs
  obtain ⟨bc, oc, rfl, zc, _, a0, a1, a2, a3, a4, a5, a6, a7, a8⟩ := (Hhcs.out.below lo).at hcd
  rw [es1] at c0
  rw [es2] at c1
  have d4 := e2.at12 hQ rfl
  unfold LockErr Lk.cells at q2
  unfold ShowPost Lk.cells Crd.cells at q3
  dsimp only at q2 q3
  have zg4 : g < w4.heap.size := by omega
  have n1 : (0 : Int) ≤ (i1 : Int) := by omega
  have n2 : (i1 : Int) < (n : Int) := by omega
  have n3 : (0 : Int) ≤ (j1 : Int) := by omega
  have n4 : (j1 : Int) < (m : Int) := by omega
  have bb4 := lo
  clear lo hLk ew
  unfold LkP.cells Lk.cells at d4
  dsimp only at d4
  have ⟨He1, He2, He4, He5, Hbb4, Hhw4, Hhs, Hes1⟩ := hid8 e1 e2 e4 e5 bb4 hw4 hs es1; clear e1 e2 e4 e5 bb4 hw4 hs es1; have ⟨Hes2, HhQ, Hhcd, Hhv, Hst1, Hst2, Hhok, Hhfr⟩ := hid8 es2 hQ hcd hv st1 st2 hok hfr; clear es2 hQ hcd hv st1 st2 hok hfr; have ⟨Hhc, Hpw, Hq2, Hq3, HfZ, HeO, Hd4, Hlro⟩ := hid8 hc pw q2 q3 fZ eO d4 lro; clear hc pw q2 q3 fZ eO d4 lro; have HlQs := Lib.hid lQs; clear lQs
  have y0 := (Hd4.out 0 _ rfl).at
  have y1 := (Hd4.out 1 _ rfl).at
  have y2 := (Hd4.out 2 _ rfl).at
  have y3 := (Hd4.out 3 _ rfl).at
  have y4 := (Hd4.out 4 _ rfl).at
  have y5 := (Hd4.out 5 _ rfl).at
  have y6 := (Hd4.out 6 _ rfl).at
  have y7 := (Hd4.out 7 _ rfl).at
  have y8 := (Hd4.out 8 _ rfl).at
  have y9 := (Hd4.out 9 _ rfl).at
  have y10 := (Hd4.out 10 _ rfl).at
  have y11 := (Hd4.out 11 _ rfl).at
  simp only [Nat.add_zero] at y0
  go_wp2_with fail
  (with_reducible refine (Hq2.out _ ?_).mono ?_)
  ·exact (show Below w4.heap.size w4 _ from belt)
  rintro e w5 ⟨A1, p1, B1, r1, rfl, pa, pb, b5⟩
  have c5 : Below w4.heap.size w4 w5 := Below.trans belt (b5.mono omh)
  have s5 := c5.size
  have bb5 := Hbb4.out.trans (c5.mono Hbb4.out.size)
  have ⟨Hb5, Hc5, Hbb5⟩ := hid3 b5 c5 bb5; clear b5 c5 bb5
  clear y0 y1 y2 y3 y4 y5 y6 y7 y8 y9 y10 y11
  go_upto_region 11 with (fail)
  obtain ⟨w6, hw6⟩ : ∃ W, w5.alloc (.cells #[.int .i64 L.d, .int .i64 L.k, .int .i64 L.r, .int .i64 L.x.s, .int .i64 L.x.c, .slice A1 L.x.l.length p1, .int .u64 L.x.u, .int .i64 L.y.s, .int .i64 L.y.c, .slice B1 L.y.l.length r1, .int .u64 L.y.u, .bool true] 48) = W := ⟨_, rfl⟩
  rw [hw6]
  have c6 : Below w4.heap.size w4 w6 := by rw [← hw6]; exact Hb5.out.alloc s5 _
  have k6 : Blk w6 w5.heap.size #[.int .i64 L.d, .int .i64 L.k, .int .i64 L.r, .int .i64 L.x.s, .int .i64 L.x.c, .slice A1 L.x.l.length p1, .int .u64 L.x.u, .int .i64 L.y.s, .int .i64 L.y.c, .slice B1 L.y.l.length r1, .int .u64 L.y.u, .bool true] := by rw [← hw6]; exact blk_new rfl
  have ok6 : LkP.Ok ⟨{ L with up := true }, A1, p1, B1, r1⟩ w6 := by rw [← hw6]; exact ⟨pa.1.alloc _, pb.1.alloc _, Hhok.out.fx, Hhok.out.fy⟩
  have far1 : ∀ x, x < w4.heap.size → LkP.Far ⟨L, A2, p, B, r⟩ x → OffB A1 L.x.l x ∧ OffB B1 L.y.l x := fun x hx h => ⟨pa.offB h.a hx, pb.offB h.b hx⟩
  have s6 : w4.heap.size ≤ w6.heap.size := c6.size
  have zk : w5.heap.size < w6.heap.size := (k6 0 _ rfl).lt
  have c0 := keepc c6 zs c0
  have c1 := keepc c6 zs c1
  have c2 := keepc c6 zs c2
  have c3' := keepc c6 zs c3'
  have a0 := keepc c6 zc a0
  have a1 := keepc c6 zc a1
  have a2 := keepc c6 zc a2
  have a3 := keepc c6 zc a3
  have a4 := keepc c6 zc a4
  have a5 := keepc c6 zc a5
  have a6 := keepc c6 zc a6
  have a7 := keepc c6 zc a7
  have a8 := keepc c6 zc a8
  have zs6 : bs < w6.heap.size := by omega
  have zc6 : bc < w6.heap.size := by omega
  clear pa pb
  have ⟨Hc6, Hk6, Hok6, Hfar1, Hhw6⟩ := hid5 c6 k6 ok6 far1 hw6; clear c6 k6 ok6 far1 hw6
  obtain ⟨z0, z1, z2, z3, z4, z5, z6, z7, z8, z9, z10, z11⟩ := at12_of Hk6.out
  go_cut [16, 17, 18] from 48 to 71 (fun c16 c17 c18 wx => ∃ nx A3 p3 B3 r3, c16 = .pointer (some ⟨nx, 0, none⟩) ∧ c17 = .bool OZ ∧ c18 = .int .i64 E ∧ w6.heap.size ≤ nx ∧ Blk wx nx (Z.cells A3 Z.x.l.length p3 B3 Z.y.l.length r3).toArray ∧ IntsAt wx A3 .i64 Z.x.l ∧ IntsAt wx B3 .i64 Z.y.l ∧ (∀ x, x < w4.heap.size → LkP.Far ⟨L, A2, p, B, r⟩ x → OffB A3 Z.x.l x ∧ OffB B3 Z.y.l x) ∧ Below w6.heap.size w6 wx)
  case first =>
   refine wp_region_held_drew (S := (fun W => (∀ b o, b < w6.heap.size → W.cell? ⟨b, o, none⟩ = w6.cell? ⟨b, o, none⟩) ∧ Below w6.heap.size w6 W)) (by kernel_rfl) ?_ (fun hHeld => ?_)
   ·(try dsimp only); (first | (refine ext_mk ?_; exact belt))
   refine tq 0 (some 49) ?_
   (try simp only [apz])
   refine tq 1 (some 50) ?_
   (try simp only [apz])
   refine tq 2 (some 51) ?_
   (try simp only [apz])
   refine tq 3 (some 52) ?_
   (try simp only [apz])
   refine tq 4 (some 53) ?_
   (try simp only [apz])
   refine tq 5 (some 54) ?_
   (try simp only [apz])
   refine tq 6 (some 55) ?_
   (try simp only [apz])
   refine tq 7 (some 56) ?_
   (try simp only [apz])
   refine tq 8 (some 57) ?_
   (try simp only [apz])
   refine tq 9 (some 58) ?_
   (try simp only [apz])
   refine tq 10 (some 59) ?_
   (try simp only [apz])
   refine tq 11 (some 60) ?_
   (try simp only [apz])
   refine tq 12 (some 61) ?_
   (try simp only [apz])
   refine tq 13 (some 62) ?_
   (try simp only [apz])
   refine tq 14 (some 63) ?_
   (try simp only [apz])
   refine tq 15 (some 64) ?_
   (try simp only [apz])
   refine tq 16 (some 65) ?_
   (try simp only [apz])
   refine tq 17 (some 66) ?_
   (try simp only [apz])
   refine tq 18 (some 67) ?_
   (try simp only [apz])
   refine wpAnyH_ready (rs := [19, 24]) (by kernel_rfl) (by simp) ?_
   refine AllReadyH.cons rfl (fun K hK => ?_) (AllReadyH.cons rfl (fun K hK => ?_) AllReadyH.nil)
   ·go_simp
    (go_at_call 33; (with_reducible refine (Hq3.out _ A1 p1 B1 r1 ?_ ?_).mono ?_); (focus (exact Hok6.out.a.below (And.right (by assumption : _ ∧ Below w6.heap.size w6 _)))); (focus (exact Hok6.out.b.below (And.right (by assumption : _ ∧ Below w6.heap.size w6 _)))); rintro e w7 ⟨A3, p3, B3, r3, rfl, pa3, pb3, hbw7⟩; have gw7 := Below.trans (And.right (by assumption : _ ∧ Below w6.heap.size w6 _)) (hbw7.mono (Below.size (And.right (by assumption : _ ∧ Below w6.heap.size w6 _)))); have gsw7 := gw7.size; have hcf := bcell hbw7; have hcw7 := hcf.1; have hfw7 := hcf.2; have hsw7 := hbw7.size; (try simp only [World.size_alloc, World.heap_drewN, heap_drew] at hsw7); have Hhbw7 := Lib.hid hbw7; clear hbw7 hcf; (try have hzw7 : w6.heap.size < w7.heap.size := by omega))
    have oA : ∀ x, x < w4.heap.size → LkP.Far ⟨L, A2, p, B, r⟩ x → OffB A3 Z.x.l x ∧ OffB B3 Z.y.l x := fun x hx h => ⟨pa3.offB (Hfar1.out x hx h).1 (by simp; omega), pb3.offB (Hfar1.out x hx h).2 (by simp; omega)⟩
    refine hK.out _ _ ?_ (fun hHeld => ?_)
    ·(try dsimp only); (first | (refine ext_mk ?_; exact belt))
    clear hK K
    (try simp only [apz])
    refine tq 20 (some 48) ?_
    (try simp only [apz])
    refine tq 21 (some 69) ?_
    (try simp only [apz])
    refine tq 22 (some 70) ?_
    (try simp only [apz])
    refine tq 23 (some 71) ?_
    (try simp only [apz])
    refine wpAnyH_ready (rs := [24]) (by kernel_rfl) (by simp) ?_
    refine AllReadyH.cons rfl (fun K hK => ?_) AllReadyH.nil
    go_simp
    refine hK.out _ _ ?_ (fun hHeld => ?_)
    ·(try dsimp only); (first | (refine ext_mk ?_; exact belt))
    clear hK K
    (try simp only [apz])
    refine wpAnyH_ready (rs := [25]) (by kernel_rfl) (by simp) ?_
    refine AllReadyH.cons rfl (fun K hK => ?_) AllReadyH.nil
    go_simp
    refine hK.out _ _ ?_ (fun hHeld => ?_)
    ·(try dsimp only); (first | (refine ext_mk ?_; exact belt))
    clear hK K
    (try simp only [apz])
    refine tq 26 (some 17) ?_
    (try simp only [apz])
    refine tq 27 (some 18) ?_
    (try simp only [apz])
    refine wpAnyH_done (by kernel_rfl) ?_ _
    have bl := gw7
    have ia := pa3.1
    have ib := pb3.1
    have ⟨HoA, Hbl, Hia, Hib, Hpa3, Hpb3⟩ := hid6 oA bl ia ib pa3 pb3; clear oA bl ia ib pa3 pb3
    go_wp2_with fail
    go_meet
    (case rel => exact ⟨w7.heap.size, A3, p3, B3, r3, rfl, rfl, rfl, Hbl.out.size, blk_new rfl, Hia.out.alloc _, Hib.out.alloc _, HoA.out, Hbl.out.alloc Hbl.out.size _⟩)
   ·go_simp
    refine hK.out _ _ ?_ (fun hHeld => ?_)
    ·(try dsimp only); (first | (refine ext_mk ?_; exact belt))
    clear hK K
    (try simp only [apz])
    refine wpAnyH_ready (rs := [19]) (by kernel_rfl) (by simp) ?_
    refine AllReadyH.cons rfl (fun K hK => ?_) AllReadyH.nil
    go_simp
    (go_at_call 33; (with_reducible refine (Hq3.out _ A1 p1 B1 r1 ?_ ?_).mono ?_); (focus (exact Hok6.out.a.below (And.right (by assumption : _ ∧ Below w6.heap.size w6 _)))); (focus (exact Hok6.out.b.below (And.right (by assumption : _ ∧ Below w6.heap.size w6 _)))); rintro e w7 ⟨A3, p3, B3, r3, rfl, pa3, pb3, hbw7⟩; have gw7 := Below.trans (And.right (by assumption : _ ∧ Below w6.heap.size w6 _)) (hbw7.mono (Below.size (And.right (by assumption : _ ∧ Below w6.heap.size w6 _)))); have gsw7 := gw7.size; have hcf := bcell hbw7; have hcw7 := hcf.1; have hfw7 := hcf.2; have hsw7 := hbw7.size; (try simp only [World.size_alloc, World.heap_drewN, heap_drew] at hsw7); have Hhbw7 := Lib.hid hbw7; clear hbw7 hcf; (try have hzw7 : w6.heap.size < w7.heap.size := by omega))
    have oA : ∀ x, x < w4.heap.size → LkP.Far ⟨L, A2, p, B, r⟩ x → OffB A3 Z.x.l x ∧ OffB B3 Z.y.l x := fun x hx h => ⟨pa3.offB (Hfar1.out x hx h).1 (by simp; omega), pb3.offB (Hfar1.out x hx h).2 (by simp; omega)⟩
    have oA' := pa3.offB (g := w6.heap.size) (offB_old Hok6.out.a (Nat.le_refl _)) (by simp)
    have oB' := pb3.offB (g := w6.heap.size) (offB_old Hok6.out.b (Nat.le_refl _)) (by simp)
    refine hK.out _ _ ?_ (fun hHeld => ?_)
    ·(try dsimp only); (first | (refine ext_mk ?_; exact belt))
    clear hK K
    (try simp only [apz])
    refine tq 20 (some 48) ?_
    (try simp only [apz])
    refine tq 21 (some 69) ?_
    (try simp only [apz])
    refine tq 22 (some 70) ?_
    (try simp only [apz])
    refine tq 23 (some 71) ?_
    (try simp only [apz])
    have zB : Blk w7 w6.heap.size #[.int .i64 0, .int .i64 0, .int .i64 0, .int .i64 0, .int .i64 0, .slice none 0 0, .int .u64 0, .int .i64 0, .int .i64 0, .slice none 0 0, .int .u64 0, .bool false] := (Blk.below (blk_new (t := 48) rfl) (Below.refl _ _).drew).below Hhbw7.out
    have HzB := Lib.hid zB; clear zB
    obtain ⟨v0, v1, v2, v3, v4, v5, v6, v7, v8, v9, v10, v11⟩ := at12_of HzB.out
    obtain ⟨f0, f1, f2, f3, f4, f5, f6, f7, f8, f9, f10, f11⟩ := free12_of HzB.out
    have lv := (HzB.out 0 _ rfl).lt
    refine wpAnyH_ready (rs := [25]) (by kernel_rfl) (by simp) ?_
    refine AllReadyH.cons rfl (fun K hK => ?_) AllReadyH.nil
    go_simp
    refine hK.out _ _ ?_ (fun hHeld => ?_)
    ·(try dsimp only); (first | (refine ext_mk ?_; exact belt))
    clear hK K
    (try simp only [apz])
    refine tq 26 (some 17) ?_
    (try simp only [apz])
    refine tq 27 (some 18) ?_
    (try simp only [apz])
    refine wpAnyH_done (by kernel_rfl) ?_ _
    have bl := gw7
    have ia := putL_ints (b := w6.heap.size) oA' [.int .i64 Z.d, .int .i64 Z.k, .int .i64 Z.r, .int .i64 Z.x.s, .int .i64 Z.x.c, .slice A3 Z.x.l.length p3, .int .u64 Z.x.u, .int .i64 Z.y.s, .int .i64 Z.y.c, .slice B3 Z.y.l.length r3, .int .u64 Z.y.u, .bool Z.up] w7 0 pa3.1
    have ib := putL_ints (b := w6.heap.size) oB' [.int .i64 Z.d, .int .i64 Z.k, .int .i64 Z.r, .int .i64 Z.x.s, .int .i64 Z.x.c, .slice A3 Z.x.l.length p3, .int .u64 Z.x.u, .int .i64 Z.y.s, .int .i64 Z.y.c, .slice B3 Z.y.l.length r3, .int .u64 Z.y.u, .bool Z.up] w7 0 pb3.1
    have bz := putL_blk HzB.out [.int .i64 Z.d, .int .i64 Z.k, .int .i64 Z.r, .int .i64 Z.x.s, .int .i64 Z.x.c, .slice A3 Z.x.l.length p3, .int .u64 Z.x.u, .int .i64 Z.y.s, .int .i64 Z.y.c, .slice B3 Z.y.l.length r3, .int .u64 Z.y.u, .bool Z.up] (by simp)
    have bl2 := putL_below (b := w6.heap.size) (Nat.le_refl _) [.int .i64 Z.d, .int .i64 Z.k, .int .i64 Z.r, .int .i64 Z.x.s, .int .i64 Z.x.c, .slice A3 Z.x.l.length p3, .int .u64 Z.x.u, .int .i64 Z.y.s, .int .i64 Z.y.c, .slice B3 Z.y.l.length r3, .int .u64 Z.y.u, .bool Z.up] w7 0 bl
    simp only [putL, Nat.reduceAdd] at ia ib bz bl2
    have ⟨HoA, Hbl, Hbl2, Hia, Hib, Hbz, Hpa3, Hpb3⟩ := hid8 oA bl bl2 ia ib bz pa3 pb3; clear oA bl bl2 ia ib bz pa3 pb3; have ⟨HoA', HoB'⟩ := hid2 oA' oB'; clear oA' oB'
    go_wp2_with fail
    go_meet
    (case rel => exact ⟨w6.heap.size, A3, p3, B3, r3, rfl, rfl, rfl, Nat.le_refl _, Hbz.out, Hia.out, Hib.out, HoA.out, Hbl2.out⟩)
  case rest =>
   obtain ⟨nx, A3, p3, B3, r3, rfl, rfl, rfl, hnx, bZ, iA, iB, oA, c8⟩ := hcut
   obtain ⟨w8, hw8⟩ : ∃ W, wc = W := ⟨_, rfl⟩
   rw [hw8] at bZ iA iB c8 ⊢
   clear z0 z1 z2 z3 z4 z5 z6 z7 z8 z9 z10 z11 c0 c1 c2 c3' a0 a1 a2 a3 a4 a5 a6 a7 a8
   have c48 := Hc6.out.trans (c8.mono s6)
   have h8 := He2.out.below c48
   have d8 := h8.at12 HhQ.out rfl
   have ok8 := Hok6.out.below c8
   have k8 := Hk6.out.below c8
   have s8 := c8.size
   have h9 := h8.put HhQ.out ok8 ⟨(Hfar1.out g zg4 Hhfr.out).1, (Hfar1.out g zg4 Hhfr.out).2⟩
   have g9 := grown_then (grown_of_below c48 (some g)) (putL_grown (b := g) (LkP.cells ⟨{ L with up := true }, A1, p1, B1, r1⟩) w8 (i1 * 12)) (.inl rfl)
   have l9 := putL_below (b := g) (B := w0.heap.size) (by omega) (LkP.cells ⟨{ L with up := true }, A1, p1, B1, r1⟩) w8 (i1 * 12) (Hbb4.out.trans (c48.mono s04))
   have ngx : g ≠ nx := by omega
   have bZ9 := putL_far bZ ngx (i1 * 12) (LkP.cells ⟨{ L with up := true }, A1, p1, B1, r1⟩)
   have iA9 := putL_ints (b := g) (oA g zg4 Hhfr.out).1 (LkP.cells ⟨{ L with up := true }, A1, p1, B1, r1⟩) w8 (i1 * 12) iA
   have iB9 := putL_ints (b := g) (oA g zg4 Hhfr.out).2 (LkP.cells ⟨{ L with up := true }, A1, p1, B1, r1⟩) w8 (i1 * 12) iB
   obtain ⟨w9, hw9⟩ : ∃ W, putL w8 g (i1 * 12) (LkP.cells ⟨{ L with up := true }, A1, p1, B1, r1⟩) = W := ⟨_, rfl⟩
   rw [hw9] at h9 g9 l9 bZ9 iA9 iB9
   have d9 := h9.at12 (getSet HhQ.out) rfl
   unfold LkP.cells Lk.cells at hw9 d8 d9
   dsimp only at hw9 d8 d9
   simp only [putL, Nat.add_assoc, Nat.reduceAdd] at hw9
   have zn9 := (bZ9 0 _ rfl).lt
   have zg9 := (d9 0 _ rfl).lt
   have s9 := g9.size
   have e8 : Qs.length = n := HlQs.out
   clear e8
   have ⟨Hhw8, HbZ, HiA, HiB, HoA, Hc8, Hc48, Hh8⟩ := hid8 hw8 bZ iA iB oA c8 c48 h8; clear hw8 bZ iA iB oA c8 c48 h8; have ⟨Hd8, Hok8, Hk8, Hh9, Hg9, Hl9, HbZ9, HiA9⟩ := hid8 d8 ok8 k8 h9 g9 l9 bZ9 iA9; clear d8 ok8 k8 h9 g9 l9 bZ9 iA9; have ⟨HiB9, Hhw9, Hd9⟩ := hid3 iB9 hw9 d9; clear iB9 hw9 d9
   have y0 := (Hd8.out 0 _ rfl).at
   have y1 := (Hd8.out 1 _ rfl).at
   have y2 := (Hd8.out 2 _ rfl).at
   have y3 := (Hd8.out 3 _ rfl).at
   have y4 := (Hd8.out 4 _ rfl).at
   have y5 := (Hd8.out 5 _ rfl).at
   have y6 := (Hd8.out 6 _ rfl).at
   have y7 := (Hd8.out 7 _ rfl).at
   have y8 := (Hd8.out 8 _ rfl).at
   have y9 := (Hd8.out 9 _ rfl).at
   have y10 := (Hd8.out 10 _ rfl).at
   have y11 := (Hd8.out 11 _ rfl).at
   have f0 := (Hd8.out 0 _ rfl).free
   have f1 := (Hd8.out 1 _ rfl).free
   have f2 := (Hd8.out 2 _ rfl).free
   have f3 := (Hd8.out 3 _ rfl).free
   have f4 := (Hd8.out 4 _ rfl).free
   have f5 := (Hd8.out 5 _ rfl).free
   have f6 := (Hd8.out 6 _ rfl).free
   have f7 := (Hd8.out 7 _ rfl).free
   have f8 := (Hd8.out 8 _ rfl).free
   have f9 := (Hd8.out 9 _ rfl).free
   have f10 := (Hd8.out 10 _ rfl).free
   have f11 := (Hd8.out 11 _ rfl).free
   obtain ⟨z0, z1, z2, z3, z4, z5, z6, z7, z8, z9, z10, z11⟩ := at12_of Hk8.out
   simp only [Nat.add_zero] at y0 f0
   have ly := (Hd8.out 0 _ rfl).lt
   have lk := (Hk8.out 0 _ rfl).lt
   have ne1 : w5.heap.size ≠ g := by omega
   go_upto_region 13 with (fail)
   rw [Hhw9.out]
   clear ly lk y0 y1 y2 y3 y4 y5 y6 y7 y8 y9 y10 y11 f0 f1 f2 f3 f4 f5 f6 f7 f8 f9 f10 f11 z0 z1 z2 z3 z4 z5 z6 z7 z8 z9 z10 z11
   by_cases hE : E = 0
   ·subst hE
    obtain ⟨fx, fy⟩ := HfZ.out
    have hF := Hh9.out.put (getSet HhQ.out) (P := ⟨Z, A3, p3, B3, r3⟩) ⟨HiA9.out, HiB9.out, fx, fy⟩ ⟨(HoA.out g zg4 Hhfr.out).1, (HoA.out g zg4 Hhfr.out).2⟩
    have gF := grown_then Hg9.out (putL_grown (b := g) (LkP.cells ⟨Z, A3, p3, B3, r3⟩) w9 (i1 * 12)) (.inl rfl)
    have lF := putL_below (b := g) (B := w0.heap.size) (by omega) (LkP.cells ⟨Z, A3, p3, B3, r3⟩) w9 (i1 * 12) Hl9.out
    rw [List.set_set] at hF
    obtain ⟨wF, hwF⟩ : ∃ W, putL w9 g (i1 * 12) (LkP.cells ⟨Z, A3, p3, B3, r3⟩) = W := ⟨_, rfl⟩
    rw [hwF] at hF gF lF
    unfold LkP.cells Lk.cells at hwF
    dsimp only at hwF
    simp only [putL, Nat.add_assoc, Nat.reduceAdd] at hwF
    have eF := HeO.out.1 rfl
    have bZc := HbZ9.out
    unfold Lk.cells at bZc
    have ⟨HhF, HgF, HlF, HhwF, HeF, HbZc, Hfx, Hfy⟩ := hid8 hF gF lF hwF eF bZc fx fy; clear hF gF lF hwF eF bZc fx fy
    have y0 := (Hd9.out 0 _ rfl).at
    have y1 := (Hd9.out 1 _ rfl).at
    have y2 := (Hd9.out 2 _ rfl).at
    have y3 := (Hd9.out 3 _ rfl).at
    have y4 := (Hd9.out 4 _ rfl).at
    have y5 := (Hd9.out 5 _ rfl).at
    have y6 := (Hd9.out 6 _ rfl).at
    have y7 := (Hd9.out 7 _ rfl).at
    have y8 := (Hd9.out 8 _ rfl).at
    have y9 := (Hd9.out 9 _ rfl).at
    have y10 := (Hd9.out 10 _ rfl).at
    have y11 := (Hd9.out 11 _ rfl).at
    have f0 := (Hd9.out 0 _ rfl).free
    have f1 := (Hd9.out 1 _ rfl).free
    have f2 := (Hd9.out 2 _ rfl).free
    have f3 := (Hd9.out 3 _ rfl).free
    have f4 := (Hd9.out 4 _ rfl).free
    have f5 := (Hd9.out 5 _ rfl).free
    have f6 := (Hd9.out 6 _ rfl).free
    have f7 := (Hd9.out 7 _ rfl).free
    have f8 := (Hd9.out 8 _ rfl).free
    have f9 := (Hd9.out 9 _ rfl).free
    have f10 := (Hd9.out 10 _ rfl).free
    have f11 := (Hd9.out 11 _ rfl).free
    simp only [Nat.add_zero] at y0 f0
    obtain ⟨v0, v1, v2, v3, v4, v5, v6, v7, v8, v9, v10, v11⟩ := at12_of HbZc.out
    have ne2 : nx ≠ g := by omega
    go_upto_region 15 with (fail)
    rw [HhwF.out]
    clear y0 y1 y2 y3 y4 y5 y6 y7 y8 y9 y10 y11 f0 f1 f2 f3 f4 f5 f6 f7 f8 f9 f10 f11 v0 v1 v2 v3 v4 v5 v6 v7 v8 v9 v10 v11
    have ow := He4.out.kept HgF.out (off_row He4.out zg3)
    have szF := HgF.out.size
    cases OZ
    ·have How := Lib.hid ow; clear ow
     go_wp2_with (at_builtin; refine wp_app_gen (At := BlAt) _ rfl (.tmp 82) (.tmp 88) 31 rfl iB _ 1 Tryz.underlying31 HhiB.out HhzB0.out HhzB1.out HhzB2.out rfl (by decide) boolC_len boolC_one (fun _ _ h => h) j Hlro.out rfl (How.out.alloc _) (some ⟨wF.heap.size, 0, none⟩) 1 1 [false] rfl rfl (bls_new wF false _ _ rfl) (by unfold maxLen; omega) (by omega) (by simp; omega) ?_)
     intro O9 c9 w11 ow11 gr11 ho11
     obtain ⟨x1, x2, x3, x4⟩ := round_end How.out HhF.out HgF.out He5.out (fun x e => ⟨(HoA.out x (He4.out.lt x e).2 (He5.out _ (List.mem_of_getElem? HhQ.out) x e)).1, (HoA.out x (He4.out.lt x e).2 (He5.out _ (List.mem_of_getElem? HhQ.out) x e)).2⟩) zg3 (by omega) gr11 ho11 HlF.out
     have ⟨How11, Hgr11, Hho11, Hx1, Hx2, Hx3, Hx4⟩ := hid7 ow11 gr11 ho11 x1 x2 x3 x4; clear ow11 gr11 ho11 x1 x2 x3 x4
     go_wp2_with fail
     go_roundw
     (case rel => exact ⟨j + 1, O9, c9, Qs.set i1 _, by omega, rfl, by go_num, by rw [List.map_set, Hst1.out, HeF.out], Hx1.out, by rw [Hst2.out, HeF.out, List.map_take]; exact How11.out, Hx2.out, Hx3.out, Hx4.out⟩)
     (case measure => simp [intOf]; omega)
    ·have How := Lib.hid ow; clear ow
     go_wp2_with (at_builtin; refine wp_app_gen (At := BlAt) _ rfl (.tmp 82) (.tmp 88) 31 rfl iB _ 1 Tryz.underlying31 HhiB.out HhzB0.out HhzB1.out HhzB2.out rfl (by decide) boolC_len boolC_one (fun _ _ h => h) j Hlro.out rfl (How.out.alloc _) (some ⟨wF.heap.size, 0, none⟩) 1 1 [true] rfl rfl (bls_new wF true _ _ rfl) (by unfold maxLen; omega) (by omega) (by simp; omega) ?_)
     intro O9 c9 w11 ow11 gr11 ho11
     obtain ⟨x1, x2, x3, x4⟩ := round_end How.out HhF.out HgF.out He5.out (fun x e => ⟨(HoA.out x (He4.out.lt x e).2 (He5.out _ (List.mem_of_getElem? HhQ.out) x e)).1, (HoA.out x (He4.out.lt x e).2 (He5.out _ (List.mem_of_getElem? HhQ.out) x e)).2⟩) zg3 (by omega) gr11 ho11 HlF.out
     have ⟨How11, Hgr11, Hho11, Hx1, Hx2, Hx3, Hx4⟩ := hid7 ow11 gr11 ho11 x1 x2 x3 x4; clear ow11 gr11 ho11 x1 x2 x3 x4
     go_wp2_with fail
     go_roundw
     (case rel => exact ⟨j + 1, O9, c9, Qs.set i1 _, by omega, rfl, by go_num, by rw [List.map_set, Hst1.out, HeF.out], Hx1.out, by rw [Hst2.out, HeF.out, List.map_take]; exact How11.out, Hx2.out, Hx3.out, Hx4.out⟩)
     (case measure => simp [intOf]; omega)
   ·have j1 : (E != 0) = true := by simp [hE]
    have j2 : (E == 0) = false := by simp [hE]
    have eF := HeO.out.2 hE
    have ⟨HhE, HeF⟩ := hid2 hE eF; clear hE eF
    go_upto_region 15 with (fail)
    have ow := He4.out.kept Hg9.out (off_row He4.out zg3)
    have szF := Hg9.out.size
    cases OZ
    ·have How := Lib.hid ow; clear ow
     go_wp2_with (at_builtin; refine wp_app_gen (At := BlAt) _ rfl (.tmp 82) (.tmp 88) 31 rfl iB _ 1 Tryz.underlying31 HhiB.out HhzB0.out HhzB1.out HhzB2.out rfl (by decide) boolC_len boolC_one (fun _ _ h => h) j Hlro.out rfl (How.out.alloc _) (some ⟨w9.heap.size, 0, none⟩) 1 1 [false] rfl rfl (bls_new w9 false _ _ rfl) (by unfold maxLen; omega) (by omega) (by simp; omega) ?_)
     intro O9 c9 w11 ow11 gr11 ho11
     obtain ⟨x1, x2, x3, x4⟩ := round_end How.out Hh9.out Hg9.out He5.out (fun x e => ⟨(Hfar1.out x (He4.out.lt x e).2 (He5.out _ (List.mem_of_getElem? HhQ.out) x e)).1, (Hfar1.out x (He4.out.lt x e).2 (He5.out _ (List.mem_of_getElem? HhQ.out) x e)).2⟩) zg3 (by omega) gr11 ho11 Hl9.out
     have ⟨How11, Hgr11, Hho11, Hx1, Hx2, Hx3, Hx4⟩ := hid7 ow11 gr11 ho11 x1 x2 x3 x4; clear ow11 gr11 ho11 x1 x2 x3 x4
     go_wp2_with fail
     go_roundw
     (case rel => exact ⟨j + 1, O9, c9, Qs.set i1 _, by omega, rfl, by go_num, by rw [List.map_set, Hst1.out, HeF.out], Hx1.out, by rw [Hst2.out, HeF.out, List.map_take]; exact How11.out, Hx2.out, Hx3.out, Hx4.out⟩)
     (case measure => simp [intOf]; omega)
    ·have How := Lib.hid ow; clear ow
     go_wp2_with (at_builtin; refine wp_app_gen (At := BlAt) _ rfl (.tmp 82) (.tmp 88) 31 rfl iB _ 1 Tryz.underlying31 HhiB.out HhzB0.out HhzB1.out HhzB2.out rfl (by decide) boolC_len boolC_one (fun _ _ h => h) j Hlro.out rfl (How.out.alloc _) (some ⟨w9.heap.size, 0, none⟩) 1 1 [false] rfl rfl (bls_new w9 false _ _ rfl) (by unfold maxLen; omega) (by omega) (by simp; omega) ?_)
     intro O9 c9 w11 ow11 gr11 ho11
     obtain ⟨x1, x2, x3, x4⟩ := round_end How.out Hh9.out Hg9.out He5.out (fun x e => ⟨(Hfar1.out x (He4.out.lt x e).2 (He5.out _ (List.mem_of_getElem? HhQ.out) x e)).1, (Hfar1.out x (He4.out.lt x e).2 (He5.out _ (List.mem_of_getElem? HhQ.out) x e)).2⟩) zg3 (by omega) gr11 ho11 Hl9.out
     have ⟨How11, Hgr11, Hho11, Hx1, Hx2, Hx3, Hx4⟩ := hid7 ow11 gr11 ho11 x1 x2 x3 x4; clear ow11 gr11 ho11 x1 x2 x3 x4
     go_wp2_with fail
     go_roundw
     (case rel => exact ⟨j + 1, O9, c9, Qs.set i1 _, by omega, rfl, by go_num, by rw [List.map_set, Hst1.out, HeF.out], Hx1.out, by rw [Hst2.out, HeF.out, List.map_take]; exact How11.out, Hx2.out, Hx3.out, Hx4.out⟩)
     (case measure => simp [intOf]; omega)
theorem rrun_any (A : Option Addr) (cp n : Nat) (Ps : List LkP) (X : Option Addr) (cx m : Nat) (cs : List Crd) (Y : Option Addr) (cy k : Nat) (ss : List Sh4) (w : World) (hn : Ps.length = n) (hm : cs.length = m) (hk : ss.length = k) (hn9 : n ≤ 100) (hm9 : m ≤ 1000) (hk9 : k ≤ 100)
  (hl : Locks w A Ps) (hcs : Cards w X cs) (hss : Shows w Y ss) :
  Calls Tryz.prog 10 #[.slice A n cp, .slice X m cx, .slice Y k cy] w (RunRes (runL (Ps.map LkP.L) cs ss) (runW (Ps.map LkP.L) cs ss) (runN (Ps.map LkP.L) cs ss) w) := by
 cases hB : runB (Ps.map LkP.L) cs ss with
 | true => rw [runL, runW, runN, if_pos hB, if_pos hB, if_pos hB]; exact rrun_ok A cp n Ps X cx m cs Y cy k ss w hn hm hk hn9 hm9 hk9 hl hcs hss hB
 | false =>
  have h : ¬ runB (Ps.map LkP.L) cs ss = true := by rw [hB]; simp
  rw [runL, runW, runN, if_neg h, if_neg h, if_neg h]; exact rrun_bad A cp n Ps X cx m cs Y cy k ss w hn hm hk hn9 hm9 hk9 hl hcs hss hB
end Go.Proofs.YtclgncaghiinhaaGreatDoor
