/- Contracts of the reference of locks: Power, New, has, put, Accepts. -/
import Derived.Test.YtclgncaghiinhaaGreatDoorT21
import Derived.Test.YtclgncaghiinhaaGreatDoorT36
import Derived.Test.YtclgncaghiinhaaGreatDoorT42
set_option linter.unusedSimpArgs false
set_option linter.unusedVariables false
set_option maxRecDepth 100000
namespace Go.Proofs.YtclgncaghiinhaaGreatDoor
open Go.RowKit
set_option maxHeartbeats 4000000 in
theorem rlpower_any (l : Lk) (u : Bool) (A : Option Addr) (n p : Nat) (B : Option Addr) (m q : Nat) (w : World) (hx : SlotIs w A n l.x) (hy : SlotIs w B m l.y) :
  Calls Tryz.prog 32 #[.agg (l.cells A n p B m q).toArray, .bool u] w (LockErr A l.x.l B l.y.l (pwR l u) (pwE l) w) := by
 obtain ⟨w0, hw0⟩ : ∃ W, (w.alloc (.cells (l.cells A n p B m q).toArray 48)).alloc (.cells #[.int .i64 0, .int .i64 0, .int .i64 0, .int .i64 0, .int .i64 0, .slice none 0 0, .int .u64 0, .int .i64 0, .int .i64 0, .slice none 0 0, .int .u64 0, .bool false] 48) = W := ⟨_, rfl⟩
 have bb0 : Below w.heap.size w w0 := by rw [← hw0]; exact ((Below.refl _ _).alloc (Nat.le_refl _) _).alloc (by simp) _
 have k0 : Blk w0 w.heap.size (l.cells A n p B m q).toArray := by rw [← hw0]; exact (blk_new rfl).alloc _
 have g0 : Blk w0 (w.heap.size + 1) #[.int .i64 0, .int .i64 0, .int .i64 0, .int .i64 0, .int .i64 0, .slice none 0 0, .int .u64 0, .int .i64 0, .int .i64 0, .slice none 0 0, .int .u64 0, .bool false] := by rw [← hw0]; exact blk_new (by simp)
 have q1 := rlvalid_any l A n p B m q w0 (hx.below bb0) (hy.below bb0)
 cases hv : lvB l with
 | false =>
  have e1 : pwR l u = Lk.zero := by simp [pwR, hv]
  have e2 : pwE l = 1 := by simp [pwE, hv]
  rw [hv] at q1
  rw [e1, e2]
  unfold Lk.cells at k0 hw0 q1 ⊢
  have ⟨Hbb0, Hk0, Hg0, Hhw0, Hq1, Hhx, Hhy⟩ := hid7 bb0 k0 g0 hw0 q1 hx hy; clear bb0 k0 g0 hw0 q1 hx hy
  go_enter Tryz.func32, Tryz.ntmps32
  go_wp2_with fail
  rw [Hhw0.out]
  obtain ⟨y0, y1, y2, y3, y4, y5, y6, y7, y8, y9, y10, y11⟩ := at12_of Hk0.out
  go_wp2_with fail
  (with_reducible refine (Hq1.out).mono ?_)
  rintro e w1 ⟨rfl, b1⟩
  have c1 : Below w0.heap.size w0 w1 := Below.trans belt (b1.mono omh)
  have s1 := c1.size
  have bb1 := Hbb0.out.trans (c1.mono Hbb0.out.size)
  have k1 := Hk0.out.below c1
  have g1 := Hg0.out.below c1
  have ⟨Hb1, Hc1, Hbb1, Hk1, Hg1⟩ := hid5 b1 c1 bb1 k1 g1; clear b1 c1 bb1 k1 g1
  clear y0 y1 y2 y3 y4 y5 y6 y7 y8 y9 y10 y11
  obtain ⟨z0, z1, z2, z3, z4, z5, z6, z7, z8, z9, z10, z11⟩ := at12_of Hg1.out
  have lz := (Hg1.out 0 _ rfl).lt
  have b2 : Below w.heap.size w (putL w1 (w.heap.size + 1) 0 [.int .i64 0, .int .i64 0, .int .i64 0, .int .i64 0, .int .i64 0, .slice none 0 0, .int .u64 0, .int .i64 0, .int .i64 0, .slice none 0 0, .int .u64 0, .bool false]) := putL_below (by omega) _ _ _ Hbb1.out
  simp only [putL, Nat.reduceAdd] at b2
  have Hb2 := Lib.hid b2; clear b2
  obtain ⟨f0, f1, f2, f3, f4, f5, f6, f7, f8, f9, f10, f11⟩ := free12_of Hg1.out
  go_wp2_with fail
  refine bodyPost_ret (v := .tuple #[.agg #[.int .i64 0, .int .i64 0, .int .i64 0, .int .i64 0, .int .i64 0, .slice none 0 0, .int .u64 0, .int .i64 0, .int .i64 0, .slice none 0 0, .int .u64 0, .bool false], .int .i64 1]) (by simp [results, Tryz.results32, go_sem, *]) rfl (lockErr_zero Hb2.out)
 | true =>
  have e1 : pwR l u = { l with up := u } := by simp [pwR, hv]
  have e2 : pwE l = 0 := by simp [pwE, hv]
  have hn := hx.len
  have hm := hy.len
  subst hn hm
  rw [hv] at q1
  rw [e1, e2]
  unfold LockErr Lk.cells
  unfold Lk.cells at k0 hw0 q1
  have ⟨Hbb0, Hk0, Hg0, Hhw0, Hq1, Hhx, Hhy⟩ := hid7 bb0 k0 g0 hw0 q1 hx hy; clear bb0 k0 g0 hw0 q1 hx hy
  go_enter Tryz.func32, Tryz.ntmps32
  go_wp2_with fail
  rw [Hhw0.out]
  obtain ⟨y0, y1, y2, y3, y4, y5, y6, y7, y8, y9, y10, y11⟩ := at12_of Hk0.out
  go_wp2_with fail
  (with_reducible refine (Hq1.out).mono ?_)
  rintro e w1 ⟨rfl, b1⟩
  have c1 : Below w0.heap.size w0 w1 := Below.trans belt (b1.mono omh)
  have s1 := c1.size
  have bb1 := Hbb0.out.trans (c1.mono Hbb0.out.size)
  have k1 := Hk0.out.below c1
  have g1 := Hg0.out.below c1
  have ⟨Hb1, Hc1, Hbb1, Hk1, Hg1⟩ := hid5 b1 c1 bb1 k1 g1; clear b1 c1 bb1 k1 g1
  clear y0 y1 y2 y3 y4 y5 y6 y7 y8 y9 y10 y11
  obtain ⟨y0, y1, y2, y3, y4, y5, y6, y7, y8, y9, y10, y11⟩ := at12_of Hk1.out
  obtain ⟨z0, z1, z2, z3, z4, z5, z6, z7, z8, z9, z10, z11⟩ := at12_of Hg1.out
  have ly := (Hk1.out 0 _ rfl).lt
  have lz := (Hg1.out 0 _ rfl).lt
  have b2 : Below w.heap.size w (putL (putL w1 w.heap.size 11 [.bool u]) (w.heap.size + 1) 0 [.int .i64 l.d, .int .i64 l.k, .int .i64 l.r, .int .i64 l.x.s, .int .i64 l.x.c, .slice A l.x.l.length p, .int .u64 l.x.u, .int .i64 l.y.s, .int .i64 l.y.c, .slice B l.y.l.length q, .int .u64 l.y.u, .bool u]) := putL_below (by omega) _ _ _ (putL_below (Nat.le_refl _) _ _ _ Hbb1.out)
  simp only [putL, Nat.reduceAdd] at b2
  have Hb2 := Lib.hid b2; clear b2
  have fk := (Hk1.out 11 _ rfl).free
  obtain ⟨f0, f1, f2, f3, f4, f5, f6, f7, f8, f9, f10, f11⟩ := free12_of Hg1.out
  go_wp2_with fail
  refine bodyPost_ret (v := .tuple #[.agg #[.int .i64 l.d, .int .i64 l.k, .int .i64 l.r, .int .i64 l.x.s, .int .i64 l.x.c, .slice A l.x.l.length p, .int .u64 l.x.u, .int .i64 l.y.s, .int .i64 l.y.c, .slice B l.y.l.length q, .int .u64 l.y.u, .bool u], .int .i64 0]) (by simp [results, Tryz.results32, go_sem, *]) rfl ⟨A, p, B, q, rfl, prov_old (Hhx.out.below Hb2.out).ints, prov_old (Hhy.out.below Hb2.out).ints, Hb2.out⟩
/-- whether an integer is in a list, read from somewhere on -/
theorem has_any (A : Option Addr) (cp n : Nat) (l : List Int) (hln : l.length = n) (x : Int) (w : World) (hl : IntsAt w A .i64 l) (hn : n ≤ 100000) :
  Calls Tryz.prog 66 #[.slice A n cp, .int .i64 x] w fun e w' => e = .returned (.bool (l.contains x)) ∧ Below w.heap.size w w' := by
 generalize hR : l.contains x = R at *
 have ⟨Hhl, Hhln, HhR⟩ := hid3 hl hln hR; clear hl hln hR
 go_enter Tryz.func66, Tryz.ntmps66
 go_wp2_with fail
 go_loopw [5] (fun i wr => ∃ (k : Nat), k ≤ n ∧ i = .int .i64 k ∧ (l.drop k).contains x = R ∧ Below w.heap.size w wr) (fun i _ => n - (intOf i).toNat)
 case atStart => exact ⟨0, by omega, rfl, by rw [List.drop_zero]; exact HhR.out, Below.refl _ _⟩
 case round =>
  obtain ⟨k, hk, rfl, hd, hb⟩ := hrel
  by_cases hlt : k < n
  ·have g1 : (k : Int) < (n : Int) := by omega
   have g0 : (0 : Int) ≤ (k : Int) := by omega
   have hk2 : k < l.length := by rw [Hhln.out]; exact hlt
   have hi := Hhl.out.below hb
   obtain ⟨b, off, rfl, hbl, hc⟩ := hi k hk2
   have hdr : l.drop k = l.getD k 0 :: l.drop (k + 1) := by
    rw [List.drop_eq_getElem_cons hk2, List.getD_eq_getElem?_getD, List.getElem?_eq_getElem hk2]; rfl
   rw [hdr, List.contains_cons] at hd
   generalize l.getD k 0 = v at *
   by_cases hv : v = x
   ·have i1 : (v == x) = true := by simp [hv]
    have hRt : R = true := by rw [← hd, hv]; simp
    have ⟨Hhd, Hhi, Hhdr, Hhb, Hhv⟩ := hid5 hd hi hdr hb hv; clear hd hi hdr hb hv
    go_wp2_with fail
    go_ret
    exact ⟨ret_bool (by first | rfl | rw [hRt]), Hhb.out⟩
   ·have i1 : (v == x) = false := by simp [hv]
    have i2 : (x == v) = false := by simp [Ne.symm hv]
    rw [i2, Bool.false_or] at hd
    have ⟨Hhd, Hhi, Hhdr, Hhb, Hhv⟩ := hid5 hd hi hdr hb hv; clear hd hi hdr hb hv
    go_wp2_with fail
    go_roundw
    case rel => exact ⟨k + 1, by omega, by go_num, Hhd.out, Hhb.out⟩
    case measure => simp [intOf]; omega
  ·have g1 : ¬ (k : Int) < (n : Int) := by omega
   have hRf : R = false := by rw [← hd, List.drop_eq_nil_of_le (by rw [Hhln.out]; omega)]; rfl
   have ⟨Hhd, Hhb⟩ := hid2 hd hb; clear hd hb
   go_wp2_with fail
   go_ret
   exact ⟨ret_bool (by first | rfl | rw [hRf]), Hhb.out⟩
/-- what put has made of the first elements -/
def ptL (l : List Int) (C : Nat) (x : Int) (k : Nat) : List Int := if C < k then insL (l.take k) C x else l.take k
theorem take_one {l : List Int} {k : Nat} (h : k < l.length) : l.take (k + 1) = l.take k ++ [l.getD k 0] := by
 rw [List.take_add_one, List.getElem?_eq_getElem h, List.getD_eq_getElem?_getD, List.getElem?_eq_getElem h]; rfl
theorem ptL_lt {l : List Int} {C k : Nat} {x : Int} (h : k < l.length) (hk : k < C) : ptL l C x (k + 1) = ptL l C x k ++ [l.getD k 0] := by
 rw [ptL, ptL, if_neg (by omega), if_neg (by omega), take_one h]
theorem ptL_at {l : List Int} {k : Nat} {x : Int} (h : k < l.length) : ptL l k x (k + 1) = (ptL l k x k ++ [x]) ++ [l.getD k 0] := by
 rw [ptL, ptL, if_pos (by omega), if_neg (by omega), insL, take_one h, List.take_append_of_le_length (by rw [List.length_take]; omega), List.take_of_length_le (by rw [List.length_take]; omega), List.drop_append_of_le_length (by rw [List.length_take]; omega), List.drop_eq_nil_of_le (by rw [List.length_take]; omega)]
 simp
theorem ptL_gt {l : List Int} {C k : Nat} {x : Int} (h : k < l.length) (hk : C < k) : ptL l C x (k + 1) = ptL l C x k ++ [l.getD k 0] := by
 rw [ptL, ptL, if_pos (by omega), if_pos hk, insL, insL, take_one h, List.take_append_of_le_length (by rw [List.length_take]; omega), List.drop_append_of_le_length (by rw [List.length_take]; omega)]
 simp
theorem ptL_end {l : List Int} {C : Nat} {x : Int} (h : C < l.length) : ptL l C x l.length = insL l C x := by
 rw [ptL, if_pos h, List.take_length]
theorem ptL_last {l : List Int} {x : Int} : ptL l l.length x l.length ++ [x] = insL l l.length x := by
 rw [ptL, if_neg (by omega), List.take_length, insL, List.take_length, List.drop_length]
theorem ptL_len (l : List Int) (C : Nat) (x : Int) (k : Nat) : (ptL l C x k).length ≤ l.length + 1 := by
 unfold ptL; split
 ·rw [insL_len, List.length_take]; omega
 ·rw [List.length_take]; omega
set_option maxHeartbeats 8000000 in
theorem rput_any (A : Option Addr) (cp n : Nat) (l : List Int) (hln : l.length = n) (x : Int) (w : World) (hl : IntsAt w A .i64 l) (hn : n ≤ 100000) (C : Nat) (hC : C ≤ n) (hlo : ∀ i, i < n → (x < l.getD i 0 ↔ C ≤ i)) :
  Calls Tryz.prog 67 #[.slice A n cp, .int .i64 x] w (NewList (insL l C x) w) := by
 obtain ⟨i0, hi, hz0, hz1, hz2⟩ := info_parts infoI64
 have hple := ptL_len l C x
 have ⟨Hhl, Hhln, Hhlo, Hhple⟩ := hid4 hl hln hlo hple; clear hl hln hlo hple
 go_enter Tryz.func67, Tryz.ntmps67
 go_wp2_with fail
 go_loopw [5, 6, 7] (fun v d i wr => ∃ (k : Nat) (A2 : Option Addr) (c2 : Nat) (db : Bool), k ≤ n ∧ i = .int .i64 k ∧ d = .bool db ∧ db = decide (C < k) ∧ v = .slice A2 (ptL l C x k).length c2 ∧ OwnInts wr w.heap.size 3 .i64 A2 c2 (ptL l C x k) ∧ Below w.heap.size w wr) (fun _ _ i _ => n - (intOf i).toNat)
 case atStart => exact ⟨0, none, 0, false, by omega, rfl, rfl, by simp, by simp [ptL], by rw [ptL, if_neg (by omega), List.take_zero]; exact OwnInts.nil _ _ _ _, Below.refl _ _⟩
 case round =>
  obtain ⟨k, A2, c2, db, hk, rfl, rfl, hdb, rfl, ho, hbw⟩ := hrel
  have hpl := Hhple.out k
  rw [Hhln.out] at hpl
  by_cases hlt : k < n
  ·have g1 : (k : Int) < (n : Int) := by omega
   have g0 : (0 : Int) ≤ (k : Int) := by omega
   have hkl : k < l.length := by rw [Hhln.out]; exact hlt
   obtain ⟨b, off, rfl, hbl, hc⟩ := (Hhl.out.below hbw) k hkl
   have hsz := hbw.size
   have hcmp := Hhlo.out k hlt
   have pa := @ptL_lt l C k x hkl
   have pb := @ptL_at l k x hkl
   have pc := @ptL_gt l C k x hkl
   by_cases h1 : C < k
   ·have hR := pc h1
    have hdb1 : db = true := by rw [hdb]; exact decide_eq_true h1
    have hdb2 : decide (C < k + 1) = true := decide_eq_true (by omega)
    clear pa pb pc hcmp
    subst hdb1
    generalize ptL l C x k = out at *
    generalize l.getD k 0 = v at *
    generalize hm : out.length = m at *
    have ⟨Hho, Hhbw, HhR, Hhm, Hhdb, Hhdb2, Hhkl⟩ := hid7 ho hbw hR hm hdb hdb2 hkl; clear ho hbw hR hm hdb hdb2 hkl
    go_wp2_with (at_builtin; refine wp_app_at _ rfl (.tmp 28) (.tmp 33) _ rfl w.heap.size 3 i0 _ 8 Tryz.underlying42 hi hz0 hz1 hz2 rfl .i64 A2 c2 m out Hhm.out rfl (Hho.out.alloc _) (some ⟨wr.heap.size, 0, none⟩) 1 1 [v] rfl rfl (ints_new1 wr .i64 v _ _ rfl) ?_ ?_ ?_ ?_)
    all_goals try omega
    all_goals try (simp; omega)
    intro A3 c3 w2 ho2 hg2 hB2
    have hb2 : Below w.heap.size w w2 := (Hho.out.alloc _).grow (Hhbw.out.alloc hsz _) hg2
    have ⟨Hho2, Hhg2, HhB2, Hhb2⟩ := hid4 ho2 hg2 hB2 hb2; clear ho2 hg2 hB2 hb2
    go_wp2_with fail
    go_roundw
    case rel => exact ⟨k + 1, A3, c3, true, by omega, by go_num, rfl, Hhdb2.out.symm, by rw [HhR.out, List.length_append, Hhm.out]; rfl, by rw [HhR.out]; exact Hho2.out, Hhb2.out⟩
    case measure => simp [intOf]; omega
   ·have hdb1 : db = false := by rw [hdb]; exact decide_eq_false h1
    subst hdb1
    by_cases h2 : k < C
    ·have hR := pa h2
     have hx : ¬ x < l.getD k 0 := fun h => by have := hcmp.1 h; omega
     have hdb2 : decide (C < k + 1) = false := decide_eq_false (by omega)
     clear pa pb pc hcmp
     generalize ptL l C x k = out at *
     generalize l.getD k 0 = v at *
     have hx2 : decide (x < v) = false := decide_eq_false hx
     generalize hm : out.length = m at *
     have ⟨Hho, Hhbw, HhR, Hhm, Hhdb, Hhdb2, Hhkl⟩ := hid7 ho hbw hR hm hdb hdb2 hkl; clear ho hbw hR hm hdb hdb2 hkl
     go_wp2_with (at_builtin; refine wp_app_at _ rfl (.tmp 28) (.tmp 33) _ rfl w.heap.size 3 i0 _ 8 Tryz.underlying42 hi hz0 hz1 hz2 rfl .i64 A2 c2 m out Hhm.out rfl (Hho.out.alloc _) (some ⟨wr.heap.size, 0, none⟩) 1 1 [v] rfl rfl (ints_new1 wr .i64 v _ _ rfl) ?_ ?_ ?_ ?_)
     all_goals try omega
     all_goals try (simp; omega)
     intro A3 c3 w2 ho2 hg2 hB2
     have hb2 : Below w.heap.size w w2 := (Hho.out.alloc _).grow (Hhbw.out.alloc hsz _) hg2
     have ⟨Hho2, Hhg2, HhB2, Hhb2⟩ := hid4 ho2 hg2 hB2 hb2; clear ho2 hg2 hB2 hb2
     go_wp2_with fail
     go_roundw
     case rel => exact ⟨k + 1, A3, c3, false, by omega, by go_num, rfl, Hhdb2.out.symm, by rw [HhR.out, List.length_append, Hhm.out]; rfl, by rw [HhR.out]; exact Hho2.out, Hhb2.out⟩
     case measure => simp [intOf]; omega
    ·obtain rfl : C = k := by omega
     have hR := pb
     have hx : x < l.getD C 0 := hcmp.2 (Nat.le_refl _)
     have hdb2 : decide (C < C + 1) = true := decide_eq_true (by omega)
     clear pa pb pc hcmp
     have lv := Hhl.out
     generalize ptL l C x C = out at *
     generalize hgv : l.getD C 0 = v at *
     have hx2 : decide (x < v) = true := decide_eq_true hx
     generalize hm : out.length = m at *
     have ⟨Hho, Hhbw, HhR, Hhm, Hhdb, Hhdb2, Hhkl, Hhgv⟩ := hid8 ho hbw hR hm hdb hdb2 hkl hgv; clear ho hbw hR hm hdb hdb2 hkl hgv; have Hlv := Lib.hid lv; clear lv
     go_wp2_with (at_builtin; refine wp_app_at _ rfl (.tmp 24) (.tmp 26) _ rfl w.heap.size 3 i0 _ 8 Tryz.underlying42 hi hz0 hz1 hz2 rfl .i64 A2 c2 m out Hhm.out rfl (Hho.out.alloc _) (some ⟨wr.heap.size, 0, none⟩) 1 1 [x] rfl rfl (ints_new1 wr .i64 x _ _ rfl) ?_ ?_ ?_ ?_)
     all_goals try omega
     all_goals try (simp; omega)
     intro A3 c3 w2 ho2 hg2 hB2
     have hb2 : Below w.heap.size w w2 := (Hho.out.alloc _).grow (Hhbw.out.alloc hsz _) hg2
     have hs2 := hb2.size
     have hc2 : w2.cell? ⟨b, off + C, none⟩ = some (.int .i64 v) := by
      have := (Hlv.out.below hb2) C Hhkl.out
      obtain ⟨b', off', e', hbl', hc'⟩ := this
      injection e' with e'
      injection e' with e1' e2' _
      subst e1' e2'
      rw [hc', Hhgv.out]
     have hm2 : (out ++ [x]).length = m + 1 := by rw [List.length_append, Hhm.out]; rfl
     have ⟨Hho2, Hhg2, HhB2, Hhb2, Hhm2⟩ := hid5 ho2 hg2 hB2 hb2 hm2; clear ho2 hg2 hB2 hb2 hm2
     go_wp2_with (at_builtin; refine wp_app_at _ rfl (.tmp 28) (.tmp 33) _ rfl w.heap.size 3 i0 _ 8 Tryz.underlying42 hi hz0 hz1 hz2 rfl .i64 A3 c3 (m + 1) (out ++ [x]) Hhm2.out rfl (Hho2.out.alloc _) (some ⟨w2.heap.size, 0, none⟩) 1 1 [v] rfl rfl (ints_new1 w2 .i64 v _ _ rfl) ?_ ?_ ?_ ?_)
     all_goals try omega
     all_goals try (simp; omega)
     intro A4 c4 w3 ho3 hg3 hB3
     have hb3 : Below w.heap.size w w3 := (Hho2.out.alloc _).grow (Hhb2.out.alloc hs2 _) hg3
     have ⟨Hho3, Hhg3, HhB3, Hhb3⟩ := hid4 ho3 hg3 hB3 hb3; clear ho3 hg3 hB3 hb3
     go_wp2_with fail
     go_roundw
     case rel => exact ⟨C + 1, A4, c4, true, by omega, by go_num, rfl, Hhdb2.out.symm, by rw [HhR.out, List.length_append, Hhm2.out]; rfl, by rw [HhR.out, List.append_assoc]; exact Hho3.out, Hhb3.out⟩
     case measure => simp [intOf]; omega
  ·have g1 : ¬ (k : Int) < (n : Int) := by omega
   obtain rfl : k = n := by omega
   have hsz := hbw.size
   by_cases h1 : C < k
   ·have hdb1 : db = true := by rw [hdb]; exact decide_eq_true h1
    subst hdb1
    have he : ptL l C x k = insL l C x := by rw [← Hhln.out]; exact ptL_end (by rw [Hhln.out]; exact h1)
    rw [he] at ho
    simp only [he]
    generalize insL l C x = out at *
    have ⟨Hho, Hhbw, Hhdb, Hhe⟩ := hid4 ho hbw hdb he; clear ho hbw hdb he
    go_wp2_with fail
    go_ret
    exact ⟨A2, c2, rfl, Hho.out, Hhbw.out⟩
   ·obtain rfl : C = k := by omega
    have hdb1 : db = false := by rw [hdb]; exact decide_eq_false h1
    subst hdb1
    have he : ptL l C x C ++ [x] = insL l C x := by rw [← Hhln.out]; exact ptL_last
    generalize insL l C x = R at *
    generalize ptL l C x C = out at *
    generalize hm : out.length = m at *
    have ⟨Hho, Hhbw, Hhdb, Hhe, Hhm⟩ := hid5 ho hbw hdb he hm; clear ho hbw hdb he hm
    go_wp2_with (at_builtin; refine wp_app_at _ rfl (.tmp 37) (.tmp 39) _ rfl w.heap.size 3 i0 _ 8 Tryz.underlying42 hi hz0 hz1 hz2 rfl .i64 A2 c2 m out Hhm.out rfl (Hho.out.alloc _) (some ⟨wr.heap.size, 0, none⟩) 1 1 [x] rfl rfl (ints_new1 wr .i64 x _ _ rfl) ?_ ?_ ?_ ?_)
    all_goals try omega
    all_goals try (simp; omega)
    intro A3 c3 w2 ho2 hg2 hB2
    have hb2 : Below w.heap.size w w2 := (Hho.out.alloc _).grow (Hhbw.out.alloc hsz _) hg2
    have hlen : R.length = m + 1 := by rw [← Hhe.out, List.length_append, Hhm.out]; rfl
    rw [Hhe.out] at ho2
    have ⟨Hho2, Hhg2, HhB2, Hhb2, Hhlen⟩ := hid5 ho2 hg2 hB2 hb2 hlen; clear ho2 hg2 hB2 hb2 hlen
    go_wp2_with fail
    go_ret
    exact ⟨A3, c3, by rw [Hhlen.out]; rfl, Hho2.out, Hhb2.out⟩
end Go.Proofs.YtclgncaghiinhaaGreatDoor
