/- Statements' helpers: put. -/
import Derived.Test.YtmbmejclnagffaaDoorM43
set_option linter.unusedSimpArgs false
set_option linter.unusedVariables false
set_option maxRecDepth 100000
namespace Go.Proofs.YtmbmejclnagffaaDoor
open Go.RowKit
theorem lastT_in {l : List Msg} (h : ∀ m ∈ l, msgB m = true) : 0 ≤ lastT l := by
  unfold lastT
  cases e : l.getLast? with
  | none => exact Int.le_refl _
  | some m => exact (inJ_iff.1 (msgB_iff.1 (h m (List.mem_of_getLast? e))).2.2.1).1
/-- the message of an entry -/
def putM (ms : List Msg) (party : Int) (x : Ent) (B : Option Addr) (k : Nat) : Msg := newM party ms.length (x.t + lastT ms) (kd x) B k (ar x)
theorem put_E {ms : List Msg} {h : Hd} {party sec : Int} {x : Ent} (hF : frmB ms h party = true) (hp : ptyB party = true) (hs : wthB sec 1 = true) (hx : EFit x) (hn : ms.length ≤ 100) (hT : lastT ms ≤ 900000000) :
    apE ms h party (x.t + lastT ms) (kd x) (ar x) sec (7 + (ms.length : Int)) = 0 := by
  have h0 := lastT_in (okL_all (frm_ok hF).2)
  have hx1 := hx.t
  rw [apE, if_pos ⟨by rw [hs, wthB_iff.2 ⟨by omega, by omega⟩]; rfl, msg_put hp hx ⟨by omega, by omega⟩ ⟨by omega, by omega⟩ none 0, hF⟩, if_neg (by omega), if_neg (by omega)]
/-- what put hands back -/
def PutAt (ms : List Msg) (party sec : Int) (x : Ent) (w : World) (e : Ending) (w' : World) : Prop :=
  ∃ (X : Option Addr) (c : Nat) (B : Option Addr) (k : Nat) (H : Hd), H = apH (ms ++ [putM ms party x B k]) party sec (7 + (ms.length : Int)) ∧
    e = .returned (.tuple #[.agg #[.slice X (ms.length + 1) c, .int .i64 H.p, .int .i64 H.n, .int .u64 H.c, .int .i64 H.e, .int .i64 H.s], .bool true]) ∧
    Msgs w' X (ms ++ [putM ms party x B k]) ∧ Below w.heap.size w w' ∧ (∀ b off, X = some ⟨b, off, none⟩ → w.heap.size ≤ b) ∧ (∀ b off, ar x ≠ [] → B = some ⟨b, off, none⟩ → w.heap.size ≤ b) ∧ ms.length + 1 ≤ c ∧ c ≤ maxLen
set_option maxRecDepth 100000 in
set_option maxHeartbeats 32000000 in
theorem jput_any (A : Option Addr) (cp n : Nat) (ms : List Msg) (h : Hd) (party : Int) (x : Ent) (an : Nat) (sec : Int) (hln : ms.length = n) (hn : n ≤ 100) (hf : HFit h) (hla : x.a.length = an) (hF : frmB ms h party = true) (hp : ptyB party = true) (hs : wthB sec 1 = true) (hx : EFit x) (hT : lastT ms ≤ 900000000)
    (w : World) (hl : Msgs w A ms) (hxi : IntsAt w x.A .u16 x.a) (ht : Tab w) (hc : Cnt w) :
    Calls Tryd.prog 12 #[.agg #[.slice A n cp, .int .i64 h.p, .int .i64 h.n, .int .u64 h.c, .int .i64 h.e, .int .i64 h.s], .int .i64 party, .agg #[.int .u16 x.t, .int .u8 x.k, .slice x.A an x.c], .int .i64 sec] w (PutAt ms party sec x w) := by
  obtain ⟨i0, hi0, hz0, hz1, hz2⟩ := info_parts infoJI
  have hE := put_E hF hp hs hx (by rw [hln]; exact hn) hT
  rw [hln] at hE
  have hT0 := lastT_in (okL_all (frm_ok hF).2)
  have hxt := hx.t
  have hxk := hx.k
  have hpi := ptyB_iff.1 hp
  obtain ⟨w0, hw0⟩ : ∃ W, ((w.alloc (.cells #[.slice A n cp, .int .i64 h.p, .int .i64 h.n, .int .u64 h.c, .int .i64 h.e, .int .i64 h.s] 35)).alloc (.cells #[.int .u16 x.t, .int .u8 x.k, .slice x.A an x.c] 39)).alloc (.cells #[.slice none 0 0, .int .i64 0, .int .i64 0, .int .u64 0, .int .i64 0, .int .i64 0] 35) = W := ⟨_, rfl⟩
  have bb0 : Below w.heap.size w w0 := by rw [← hw0]; exact (((Below.refl _ _).alloc (Nat.le_refl _) _).alloc (by simp) _).alloc (by simp; omega) _
  have k0 : Blk w0 w.heap.size #[.slice A n cp, .int .i64 h.p, .int .i64 h.n, .int .u64 h.c, .int .i64 h.e, .int .i64 h.s] := by rw [← hw0]; exact ((blk_new rfl).alloc _).alloc _
  have j0 : Blk w0 (w.heap.size + 1) #[.int .u16 x.t, .int .u8 x.k, .slice x.A an x.c] := by rw [← hw0]; exact (blk_new (by simp)).alloc _
  have r0 : Blk w0 (w.heap.size + 2) #[.slice none 0 0, .int .i64 0, .int .i64 0, .int .u64 0, .int .i64 0, .int .i64 0] := by rw [← hw0]; exact blk_new (by simp)
  have l0 := hl.below bb0
  have t0 := ht.below bb0
  have m0 := hc.below bb0
  have i0' := hxi.below bb0
  have s0 : w.heap.size + 2 < w0.heap.size := by rw [← hw0]; simp
  obtain ⟨kk, hkk⟩ : ∃ k, kd x = k := ⟨_, rfl⟩
  obtain ⟨TM, hTM⟩ : ∃ t, x.t + lastT ms = t := ⟨_, rfl⟩
  have kin := @kd_in x
  rw [hkk] at kin hE
  rw [hTM] at hE
  obtain ⟨N, hN⟩ : ∃ N : Nat, (N : Int) = cntI kk := ⟨(cntI kk).toNat, by have := cntI_le kk; omega⟩
  have hN7 := cntI_le kk
  rw [← hN] at hN7
  have hal : (ar x).length = N := by have := ar_len x; rw [hkk, ← hN] at this; omega
  have q1 := fun W => rCount_any kk kin W
  rw [← hN] at q1
  have q2 := fun W b h1 h2 h3 h4 => jappend_any A cp n ms h party TM kk (some ⟨b, 0, none⟩) N N (ar x) sec (7 + (n : Int)) hln (by omega) hf (by omega) (by omega) (by omega) hal (by omega) W h1 h2 h3 h4
  unfold AppAt at q2
  have hfull := fun l => @Fil.full x N l
  rw [hkk] at hfull
  have e1 : kk = 1 + x.k % 9 := by rw [← hkk]; rfl
  generalize hxA : x.A = xA at *
  generalize hxa : x.a = xa at *
  generalize hxc : x.c = xc at *
  generalize hxt9 : x.t = xt at *
  have hTM0 := hTM
  generalize x.k = xk at *
  have d9 : xk.tmod 9 = xk % 9 := Int.tmod_eq_emod_of_nonneg hxk.1
  have dwk : 1 + xk % 9 = kk := e1.symm
  have ⟨H_hxt9, H_hTM0, H_hi0, H_hz0, H_hz1, H_hz2, H_hw0, H_bb0⟩ := hid8 hxt9 hTM0 hi0 hz0 hz1 hz2 hw0 bb0; clear hxt9 hTM0 hi0 hz0 hz1 hz2 hw0 bb0; have ⟨H_k0, H_j0, H_r0, H_l0, H_t0, H_m0, H_i0', H_hl⟩ := hid8 k0 j0 r0 l0 t0 m0 i0' hl; clear k0 j0 r0 l0 t0 m0 i0' hl; have ⟨H_ht, H_hc, H_hxi, H_hln, H_hla, H_hf, H_hF, H_hE⟩ := hid8 ht hc hxi hln hla hf hF hE; clear ht hc hxi hln hla hf hF hE; have ⟨H_hkk, H_hN, H_hal, H_q1, H_q2, H_hfull, H_hxA, H_hxa⟩ := hid8 hkk hN hal q1 q2 hfull hxA hxa; clear hkk hN hal q1 q2 hfull hxA hxa; have ⟨H_hxc, H_hx, H_e1⟩ := hid3 hxc hx e1; clear hxc hx e1
  go_enter Tryd.func12, Tryd.ntmps12
  go_upto_region 1 with (fail)
  rw [H_hw0.out]
  have u0 := (H_k0.out 0 _ rfl).at
  have u1 := (H_k0.out 1 _ rfl).at
  have u2 := (H_k0.out 2 _ rfl).at
  have u3 := (H_k0.out 3 _ rfl).at
  have u4 := (H_k0.out 4 _ rfl).at
  have u5 := (H_k0.out 5 _ rfl).at
  have v0 := (H_j0.out 0 _ rfl).at
  have v1 := (H_j0.out 1 _ rfl).at
  have v2 := (H_j0.out 2 _ rfl).at
  go_upto_region 4 with (fail)
  rcases Nat.eq_zero_or_pos n with h0 | h0
  focus
    have g0 : ¬ (0 : Int) < (n : Int) := by omega
    have et : xt = TM := by
      have : ms = [] := List.eq_nil_of_length_eq_zero (H_hln.out.trans h0)
      rw [← hTM, this]; show xt = xt + 0; omega
    subst et
    have ⟨H_h0, H_hTM⟩ := hid2 h0 hTM; clear h0 hTM
    go_upto_region 6 with (fail)
  rotate_left
  focus
    obtain ⟨k, hk1⟩ : ∃ k, n = k + 1 := ⟨n - 1, by omega⟩
    obtain ⟨z, hz⟩ : ∃ z, ms[k]? = some z := ⟨_, List.getElem?_eq_getElem (by rw [H_hln.out]; omega)⟩
    obtain ⟨b, off, hA, hbl, _, _, _, zc, _, _⟩ := H_l0.out.at hz
    have hlt := lastT_at (H_hln.out.trans hk1) hz
    have wk : IntKind.i64.wrap ((n : Int) - 1) = (k : Int) := by rw [IntWalk.i64_in _ (by omega)]; omega
    have wk2 : (n : Int) - 1 = (k : Int) := by omega
    have g0 : (0 : Int) < (n : Int) := by omega
    have g1 : (k : Int) < (n : Int) := by omega
    have g2 : (0 : Int) ≤ (k : Int) := by omega
    rw [hlt] at hTM hT hT0
    generalize z.t = zt at *
    subst hA
    have ⟨H_h0, H_hz, H_hk1, H_hlt⟩ := hid4 h0 hz hk1 hlt; clear h0 hz hk1 hlt
    go_upto_region 6 with (fail)
  all_goals
    go_wp2_with fail
    (with_reducible refine (H_q1.out _).mono ?_)
    rintro e w1 ⟨rfl, b1⟩
    have c1 : Below w0.heap.size w0 w1 := Below.trans belt (b1.mono omh)
    have s1 := c1.size
    have bb1 := H_bb0.out.trans (c1.mono H_bb0.out.size)
    have k1 := H_k0.out.below c1
    have j1 := H_j0.out.below c1
    have r1 := H_r0.out.below c1
    have l1 := H_l0.out.below c1
    have t1 := H_t0.out.below c1
    have m1 := H_m0.out.below c1
    have ⟨H_b1, H_c1, H_bb1, H_k1, H_j1, H_r1, H_l1, H_t1⟩ := hid8 b1 c1 bb1 k1 j1 r1 l1 t1; clear b1 c1 bb1 k1 j1 r1 l1 t1; have H_m1 := Lib.hid m1; clear m1
    have x1 := H_i0'.out.below H_c1.out
    have z1 : w.heap.size + 2 < w1.heap.size := by omega
    have H_x1 := Lib.hid x1; clear x1
    go_wp2_with (at_make; refine wpList_make_full _ rfl (.tmp 40) (.tmp 40) 45 rfl w1.heap.size 3 i0 _ 1 Tryd.underlying45 H_hi0.out H_hz0.out H_hz1.out .i64 .i64 (N : Int) (N : Int) N rfl rfl rfl rfl (by rw [H_hz2.out]; omega) (by unfold maxLen; omega) (Nat.le_refl _) ?_)
    intro w2 own2 g2
    have d2 : Below w1.heap.size w1 w2 := (Below.refl _ _).grown g2 (Nat.le_refl _) (fun k e => by cases e)
    have a2 := blk_made own2
    have ⟨H_own2, H_g2, H_d2, H_a2⟩ := hid4 own2 g2 d2 a2; clear own2 g2 d2 a2
    clear u0 u1 u2 u3 u4 u5
    clear v0 v1 v2
    go_upto_region 8 with (fail)
    go_loopw [44] (fun i wr => ∃ (k : Nat) (l : List Int), k ≤ N ∧ i = .int .i64 k ∧ Fil x N k l ∧ Blk wr w1.heap.size (l.map (Value.int .i64)).toArray ∧ Below w1.heap.size w1 wr) (fun i _ => N - (intOf i).toNat)
    case atStart => exact ⟨0, _, by omega, rfl, Fil.zero x N, H_a2.out, H_d2.out⟩
    case round =>
      obtain ⟨k, l, hk, rfl, hfl, hbk, bz⟩ := hrel
      have sz := bz.size
      by_cases hlt : k < N
      · have g5 : (k : Int) < (N : Int) := by omega
        have g6 : (0 : Int) ≤ (k : Int) := by omega
        have hkl : k < l.length := by rw [hfl.1]; exact hlt
        have jr := H_j1.out.below bz
        have cz := hbk k (.int .i64 (l.getD k 0)) (by simp [List.getD_eq_getElem?_getD, hkl])
        have cza := cz.at
        have czf := cz.free
        have czl := cz.lt
        by_cases hin : k < an
        · have g7 : (k : Int) < (an : Int) := by omega
          obtain ⟨b, off, hA, hbl, hcx⟩ := (H_x1.out.below bz) k (by rw [H_hla.out]; exact hin)
          subst hA
          rw [← H_hxa.out] at hcx
          have vin : 0 ≤ x.a.getD k 0 ∧ x.a.getD k 0 ≤ 65535 := by
            have : k < x.a.length := by rw [H_hxa.out, H_hla.out]; exact hin
            rw [List.getD_eq_getElem?_getD, List.getElem?_eq_getElem this]; exact H_hx.out.a _ (List.getElem_mem this)
          have fl2 := hfl.set hlt
          have bk2 := blk_fill hbk (x.a.getD k 0) hkl
          have bz2 := bz.setCell (p := ⟨w1.heap.size, k, none⟩) (Nat.le_refl _) (.int .i64 (x.a.getD k 0))
          generalize x.a.getD k 0 = xv at *
          generalize l.getD k 0 = lv at *
          have ⟨H_hfl, H_hbk, H_bz, H_jr, H_cz, H_fl2, H_bk2, H_bz2⟩ := hid8 hfl hbk bz jr cz fl2 bk2 bz2; clear hfl hbk bz jr cz fl2 bk2 bz2
          have v0 := (H_jr.out 0 _ rfl).at
          have v1 := (H_jr.out 1 _ rfl).at
          have v2 := (H_jr.out 2 _ rfl).at
          go_wp2_with fail
          go_roundw
          case rel => exact ⟨k + 1, _, by omega, by go_num, H_fl2.out, H_bk2.out, H_bz2.out⟩
          case measure => simp [intOf]; omega
        · have g7 : ¬ (k : Int) < (an : Int) := by omega
          have fl2 := hfl.pass (by rw [H_hxa.out, H_hla.out]; omega)
          have ⟨H_hfl, H_hbk, H_bz, H_jr, H_cz, H_fl2⟩ := hid6 hfl hbk bz jr cz fl2; clear hfl hbk bz jr cz fl2
          have v0 := (H_jr.out 0 _ rfl).at
          have v1 := (H_jr.out 1 _ rfl).at
          have v2 := (H_jr.out 2 _ rfl).at
          go_wp2_with fail
          go_roundw
          case rel => exact ⟨k + 1, _, by omega, by go_num, H_fl2.out, H_hbk.out, H_bz.out⟩
          case measure => simp [intOf]; omega
      · have g5 : ¬ (k : Int) < (N : Int) := by omega
        have hkN : k = N := by omega
        subst hkN
        have el := H_hfull.out l hfl H_hN.out
        have ia := blk_ints hbk
        rw [el] at ia
        have bbz := H_bb1.out.trans (bz.mono H_bb1.out.size)
        have kz := H_k1.out.below bz
        have rz := H_r1.out.below bz
        have lz := H_l1.out.below bz
        have tz := H_t1.out.below bz
        have mz := H_m1.out.below bz
        have wn : IntKind.i64.wrap (7 + (n : Int)) = 7 + (n : Int) := IntWalk.i64_in _ (by omega)
        obtain ⟨w3, hw3⟩ : ∃ W, wr = W := ⟨_, rfl⟩
        rw [hw3] at hbk bz sz ia bbz kz rz lz tz mz ⊢
        have q3 := H_q2.out w3 w1.heap.size lz ia tz mz
        have ⟨H_hfl, H_hbk, H_bz, H_el, H_ia, H_bbz, H_kz, H_rz⟩ := hid8 hfl hbk bz el ia bbz kz rz; clear hfl hbk bz el ia bbz kz rz; have ⟨H_lz, H_tz, H_mz, H_hw3, H_q3⟩ := hid5 lz tz mz hw3 q3; clear lz tz mz hw3 q3
        have u0 := (H_kz.out 0 _ rfl).at
        have u1 := (H_kz.out 1 _ rfl).at
        have u2 := (H_kz.out 2 _ rfl).at
        have u3 := (H_kz.out 3 _ rfl).at
        have u4 := (H_kz.out 4 _ rfl).at
        have u5 := (H_kz.out 5 _ rfl).at
        go_wp2_with fail
        (with_reducible refine H_q3.out.mono ?_)
        rintro e w5 (⟨h1, _⟩ | ⟨_, X, c, B, kc, rfl, x5, b5, fX, fB, cp1, cp2⟩)
        · exact absurd H_hE.out h1
        have bb5 := H_bbz.out.trans (b5.mono H_bbz.out.size)
        have r5 := H_rz.out.below b5
        have s5 := b5.size
        have eM : newM party ms.length (xt + lastT ms) kk B kc (ar x) = putM ms party x B kc := by
          unfold putM; rw [H_hkk.out, H_hxt9.out]
        rw [H_hTM0.out] at eM
        rw [eM] at x5 ⊢
        rw [H_hln.out]
        obtain ⟨HH, hHH⟩ : ∃ H, H = apH (ms ++ [putM ms party x B kc]) party sec (7 + (n : Int)) := ⟨_, rfl⟩
        have eHc : HH.c = chI (ms ++ [putM ms party x B kc]) := by rw [hHH]; rfl
        have eHp : HH.p = party := by rw [hHH]; rfl
        have eHn : HH.n = (n : Int) + 1 := by rw [hHH]; show ((ms ++ [putM ms party x B kc]).length : Int) = _; rw [List.length_append, H_hln.out]; simp
        rw [← hHH, ← eHc]
        have fin : ∀ W, Msgs W X (ms ++ [putM ms party x B kc]) → Below w.heap.size w W → PutAt ms party sec x w (.returned (.tuple #[.agg #[.slice X (n + 1) c, .int .i64 party, .int .i64 ((n : Int) + 1), .int .u64 HH.c, .int .i64 HH.e, .int .i64 HH.s], .bool true])) W := fun W h1 h2 =>
          ⟨X, c, B, kc, HH, by rw [hHH, H_hln.out], by rw [eHp, eHn, H_hln.out], h1, h2, fun b off e => by have := fX b off e; omega, fun b off e1 e2 => by have := fB b off e1 e2; omega, cp1, cp2⟩
        generalize HH.c = CC at *
        generalize HH.e = EE at *
        generalize HH.s = SS at *
        have hX5 : ∀ b off, ms ++ [putM ms party x B kc] ≠ [] → X = some ⟨b, off, none⟩ → b ≠ w.heap.size + 2 := fun b off _ e => by have := fX b off e; omega
        have hM5 : ∀ m ∈ ms ++ [putM ms party x B kc], ∀ b off, m.a ≠ [] → m.A = some ⟨b, off, none⟩ → b ≠ w.heap.size + 2 := fun m hm b off h1 h2 => by
          rcases List.mem_append.1 hm with hm | hm
          · obtain ⟨g, e, hg⟩ := (H_hl.out.all m hm).2.2.lt (List.length_pos_iff.2 h1)
            rw [h2] at e; have e : b = g := Option.some.inj e; omega
          · rw [List.mem_singleton] at hm; subst hm
            have := fB b off h1 h2; omega
        have ⟨H_cp1, H_cp2, H_x5, H_b5, H_fX, H_fB, H_bb5, H_r5⟩ := hid8 cp1 cp2 x5 b5 fX fB bb5 r5; clear cp1 cp2 x5 b5 fX fB bb5 r5; have ⟨H_eM, H_eHc, H_eHp, H_eHn, H_hHH, H_fin, H_hX5, H_hM5⟩ := hid8 eM eHc eHp eHn hHH fin hX5 hM5; clear eM eHc eHp eHn hHH fin hX5 hM5
        clear u0 u1 u2 u3 u4 u5
        go_upto_region 14 with (fail)
        obtain ⟨w6, hw6⟩ : ∃ W, w5.alloc (.cells #[.slice X (n + 1) c, .int .i64 party, .int .i64 ((n : Int) + 1), .int .u64 CC, .int .i64 EE, .int .i64 SS] 35) = W := ⟨_, rfl⟩
        rw [hw6]
        have d6 : Below w5.heap.size w5 w6 := by rw [← hw6]; exact (Below.refl _ _).alloc (Nat.le_refl _) _
        have y6 : Blk w6 w5.heap.size #[.slice X (n + 1) c, .int .i64 party, .int .i64 ((n : Int) + 1), .int .u64 CC, .int .i64 EE, .int .i64 SS] := by rw [← hw6]; exact blk_new rfl
        have bb6 := H_bb5.out.trans (d6.mono H_bb5.out.size)
        have r6 := H_r5.out.below d6
        have x6 := H_x5.out.below d6
        have ⟨H_hw6, H_d6, H_y6, H_bb6, H_r6, H_x6⟩ := hid6 hw6 d6 y6 bb6 r6 x6; clear hw6 d6 y6 bb6 r6 x6
        have u0 := (H_y6.out 0 _ rfl).at
        have u1 := (H_y6.out 1 _ rfl).at
        have u2 := (H_y6.out 2 _ rfl).at
        have u3 := (H_y6.out 3 _ rfl).at
        have u4 := (H_y6.out 4 _ rfl).at
        have u5 := (H_y6.out 5 _ rfl).at
        have y0 := (H_r6.out 0 _ rfl).at
        have y1 := (H_r6.out 1 _ rfl).at
        have y2 := (H_r6.out 2 _ rfl).at
        have y3 := (H_r6.out 3 _ rfl).at
        have y4 := (H_r6.out 4 _ rfl).at
        have y5 := (H_r6.out 5 _ rfl).at
        have f0 := (H_r6.out 0 _ rfl).free
        have f1 := (H_r6.out 1 _ rfl).free
        have f2 := (H_r6.out 2 _ rfl).free
        have f3 := (H_r6.out 3 _ rfl).free
        have f4 := (H_r6.out 4 _ rfl).free
        have f5 := (H_r6.out 5 _ rfl).free
        have lr := (H_r6.out 0 _ rfl).lt
        have hne1 : w5.heap.size ≠ w.heap.size + 2 := by omega
        have gw9 : Below w.heap.size w (putL w6 (w.heap.size + 2) 0 [.slice X (n + 1) c, .int .i64 party, .int .i64 ((n : Int) + 1), .int .u64 CC, .int .i64 EE, .int .i64 SS]) := putL_below (by omega) _ _ _ H_bb6.out
        have gx9 := putL_msgs H_hX5.out H_hM5.out [.slice X (n + 1) c, .int .i64 party, .int .i64 ((n : Int) + 1), .int .u64 CC, .int .i64 EE, .int .i64 SS] w6 0 H_x6.out
        simp only [putL, Nat.reduceAdd] at gw9 gx9
        have ⟨H_gw9, H_gx9⟩ := hid2 gw9 gx9; clear gw9 gx9
        go_wp2_with fail
        refine bodyPost_ret (v := .tuple #[.agg #[.slice X (n + 1) c, .int .i64 party, .int .i64 ((n : Int) + 1), .int .u64 CC, .int .i64 EE, .int .i64 SS], .bool true]) (by simp [results, Tryd.results12, go_sem, *]) rfl (H_fin.out _ H_gx9.out H_gw9.out)
end Go.Proofs.YtmbmejclnagffaaDoor
