/- The reference of doors: SameLocks. -/
import Derived.OwnWalk
import Derived.Test.YtclgncaghiinhaaGreatDoorM8
import Derived.Test.YtclgncaghiinhaaGreatDoorM11
import Derived.Test.YtclgncaghiinhaaGreatDoorM36
import Derived.Test.YtclgncaghiinhaaGreatDoorM40
import Derived.Test.YtclgncaghiinhaaGreatDoorM43
set_option linter.unusedSimpArgs false
set_option linter.unusedVariables false
set_option maxRecDepth 100000
namespace Go.Proofs.YtclgncaghiinhaaGreatDoor
open Go.RowKit
section
open Go.RowKit Go.Maps
/-- two new slots -/
def Two (w wx : World) (g h : Nat) (u v : Array Value) : Prop := (w.heap.size ≤ g ∧ w.heap.size ≤ h ∧ g ≠ h) ∧ Blk wx g u ∧ Blk wx h v ∧ Below w.heap.size w wx
theorem Two.drew {w wx : World} {g h : Nat} {u v : Array Value} (t : Two w wx g h u v) : Two w wx.drew g h u v := ⟨t.1, t.2.1.below (Below.refl _ _).drew, t.2.2.1.below (Below.refl _ _).drew, t.2.2.2.drew⟩
section
variable {w w2 : World} {U V : Array Value} {t t' : TypeId} {g h : Nat} {z0 z1 z2 z3 y0 y1 y2 y3 a0 a1 a2 a3 b0 b1 b2 b3 : Value}
end
end
/-- what a run that goes through says, by its showings -/
theorem ran {ls : List Lk} {cs : List Crd} {ss : List Sh4} (h : runB ls cs ss = true) : runW ls cs ss = runO cs ls (ss.map Sh4.shw) ∧ (runW ls cs ss).length = ss.length ∧ runN ls cs ss = 0 ∧ runL ls cs ss = runS cs ls (ss.map Sh4.shw) ∧ (runL ls cs ss).length = ls.length := by
  rw [runW, runN, runL, if_pos h, if_pos h, if_pos h, runO_len, List.length_map, runS_len]; exact ⟨rfl, rfl, rfl, rfl, rfl⟩
theorem ran_not {ls : List Lk} {cs : List Crd} {ss : List Sh4} (h : runB ls cs ss = false) : runW ls cs ss = [] ∧ runN ls cs ss = 1 ∧ runL ls cs ss = [] := by
  have h2 : ¬ runB ls cs ss = true := by rw [h]; simp
  rw [runW, runN, runL, if_neg h2, if_neg h2, if_neg h2]; exact ⟨rfl, rfl, rfl⟩
section
theorem infoShow : (Tryz.prog.info? 53).map (fun i => (i.zero, i.size, i.bytes)) = some (some (.agg #[.int .i64 0, .int .i64 0, .int .i64 0, .int .i64 0]), 4, 32) := by kernel_rfl
theorem sh4_one (s : Sh4) : ∀ u ∈ s.cells, u.oneCell' = true := fun u hu => by
  simp only [Sh4.cells, List.mem_cons, List.not_mem_nil, or_false] at hu
  rcases hu with rfl | rfl | rfl | rfl <;> rfl
def OwnS (w : World) (base : Nat) (A : Option Addr) (c : Nat) (l : List Sh4) : Prop := OwnRows 53 4 Sh4.cells w base A c l
def OwnB (w : World) (base : Nat) (A : Option Addr) (c : Nat) (l : List Bool) : Prop := OwnRows 4 1 boolC w base A c l
theorem OwnS.shows {w : World} {base : Nat} {A : Option Addr} {c : Nat} {l : List Sh4} (h : OwnS w base A c l) : Shows w A l := OwnRows.rows h sh4_len fun _ _ => rfl
theorem OwnB.bls {w : World} {base : Nat} {A : Option Addr} {c : Nat} {l : List Bool} (h : OwnB w base A c l) : Bls w A l := OwnRows.rows h boolC_len fun _ _ => rfl
section
variable {ops : Array Oper} {o : Oper} {a : Act} {Q : Exit → Act → World → Prop}
theorem wp_app_show {rest : List Oper} (w : World) (hgd : o.guard = none) (s x : Operand) (ho : o.op = .call { callee := .builtin .append, args := #[s, x], argTypes := #[24, 24] }) (base : Nat) (A B : Option Addr) (c cc n : Nat) (l : List Sh4) (z : Sh4) (hln : l.length = n) (hn : n ≤ 1000) (hs : a.eval s = .slice A n c) (hx : a.eval x = .slice B 1 cc) (hown : OwnS w base A c l) (hr : Shows w B [z]) (hbase : base ≤ w.heap.size)
    (h : ∀ A' c' w', OwnS w' base A' c' (l ++ [z]) → w.grownBy w' (blockOf A) → wpList Tryz.prog ops Q rest (a.put o.dst (.slice A' (n + 1) c')) w') : wpList Tryz.prog ops Q (o :: rest) a w := by
  obtain ⟨i0, hi0, hz0, hz1, hz2⟩ := info_parts infoShow
  exact wp_app_gen (At := Sh4At) w hgd s x _ ho i0 _ 32 Tryz.underlying24 hi0 hz0 hz1 hz2 rfl (by decide) sh4_len sh4_one (fun _ _ h => h) n hln hs hown B cc 1 [z] rfl hx hr (by unfold maxLen; omega) (by omega) hbase fun A' c' w' h1 h2 _ => h A' c' w' h1 h2
theorem step_app_show {K : Act → World → Prop} {X : Prop} (w : World) (hgd : o.guard = none) (s x : Operand) (ho : o.op = .call { callee := .builtin .append, args := #[s, x], argTypes := #[24, 24] }) (base : Nat) (A B : Option Addr) (c cc n : Nat) (l : List Sh4) (z : Sh4) (hln : l.length = n) (hn : n ≤ 1000) (hs : a.eval s = .slice A n c) (hx : a.eval x = .slice B 1 cc) (hown : OwnS w base A c l) (hr : Shows w B [z]) (hbase : base ≤ w.heap.size)
    (h : ∀ A' c' w', OwnS w' base A' c' (l ++ [z]) → w.grownBy w' (blockOf A) → K (a.put o.dst (.slice A' (n + 1) c')) w') : if Region.wanted o (yielded ops a.tmps) = true then Oper.wp Tryz.prog o a w K Q else X := by
  obtain ⟨i0, hi0, hz0, hz1, hz2⟩ := info_parts infoShow
  exact step_app_gen (At := Sh4At) w hgd s x _ ho i0 _ 32 Tryz.underlying24 hi0 hz0 hz1 hz2 rfl (by decide) sh4_len sh4_one (fun _ _ h => h) n hln hs hown B cc 1 [z] rfl hx hr (by unfold maxLen; omega) (by omega) hbase fun A' c' w' h1 h2 _ => h A' c' w' h1 h2
theorem wp_app_bool {rest : List Oper} (w : World) (hgd : o.guard = none) (s x : Operand) (ho : o.op = .call { callee := .builtin .append, args := #[s, x], argTypes := #[31, 31] }) (base : Nat) (A B : Option Addr) (c cc n : Nat) (l : List Bool) (z : Bool) (hln : l.length = n) (hn : n ≤ 1000) (hs : a.eval s = .slice A n c) (hx : a.eval x = .slice B 1 cc) (hown : OwnB w base A c l) (hr : Bls w B [z]) (hbase : base ≤ w.heap.size)
    (h : ∀ A' c' w', OwnB w' base A' c' (l ++ [z]) → w.grownBy w' (blockOf A) → wpList Tryz.prog ops Q rest (a.put o.dst (.slice A' (n + 1) c')) w') : wpList Tryz.prog ops Q (o :: rest) a w := by
  obtain ⟨i0, hi0, hz0, hz1, hz2⟩ := info_parts infoBool
  exact wp_app_gen (At := BlAt) w hgd s x _ ho i0 _ 1 Tryz.underlying31 hi0 hz0 hz1 hz2 rfl (by decide) boolC_len boolC_one (fun _ _ h => h) n hln hs hown B cc 1 [z] rfl hx hr (by unfold maxLen; omega) (by omega) hbase fun A' c' w' h1 h2 _ => h A' c' w' h1 h2
end
theorem bls_new (w : World) (b : Bool) (t : TypeId) (n : Nat) (hn : w.heap.size = n) : Bls (w.alloc (.cells #[.bool b] t)) (some ⟨n, 0, none⟩) [b] := bls_lit w [b] _ t n hn rfl
theorem shows_new (w : World) (s : Sh4) (t : TypeId) (n : Nat) (hn : w.heap.size = n) : Shows (w.alloc (.cells #[.int .i64 s.a, .int .i64 s.b, .int .i64 s.c, .int .i64 s.d] t)) (some ⟨n, 0, none⟩) [s] := shows_lit w [s] _ t n hn rfl
/-- the chosen ones -/
def selS (q : Sh4 → Bool) (f : Sh4 → Sh4) (l : List Sh4) : List Sh4 := (l.filter q).map f
def selB (q : Sh4 → Bool) : List Sh4 → List Bool → List Bool
  | s :: r, b :: o => if q s = true then b :: selB q r o else selB q r o
  | _, _ => []
theorem selS_snoc {q : Sh4 → Bool} {f : Sh4 → Sh4} {l : List Sh4} {j : Nat} {s : Sh4} (h : l[j]? = some s) : selS q f (l.take (j + 1)) = selS q f (l.take j) ++ (if q s = true then [f s] else []) := by
  rw [List.take_add_one, h]
  simp only [selS, Option.toList_some, List.filter_append, List.map_append]
  by_cases hq : q s = true
  · rw [if_pos hq]; simp [hq]
  · rw [if_neg hq]; simp [hq]
theorem selB_snoc {q : Sh4 → Bool} : ∀ {l : List Sh4} {o : List Bool} {j : Nat} {s : Sh4} {b : Bool}, l[j]? = some s → o[j]? = some b → selB q (l.take (j + 1)) (o.take (j + 1)) = selB q (l.take j) (o.take j) ++ (if q s = true then [b] else [])
  | [], _, j, s, b, h, _ => by simp at h
  | _ :: _, [], j, s, b, _, h => by simp at h
  | x :: r, y :: o, 0, s, b, h1, h2 => by
    have e1 : x = s := by simpa using h1
    have e2 : y = b := by simpa using h2
    subst e1 e2
    simp [selB]
  | x :: r, y :: o, j + 1, s, b, h1, h2 => by
    have ih := selB_snoc (q := q) (l := r) (o := o) (j := j) (s := s) (b := b) (by simpa using h1) (by simpa using h2)
    simp only [List.take_succ_cons, selB]
    split
    · rw [ih]; rfl
    · exact ih
theorem sel_len {q : Sh4 → Bool} {f : Sh4 → Sh4} : ∀ {l : List Sh4} {o : List Bool}, l.length = o.length → (selB q l o).length = (selS q f l).length
  | [], [], _ => rfl
  | [], _ :: _, h => by simp at h
  | _ :: _, [], h => by simp at h
  | x :: r, y :: o, h => by
    have ih := sel_len (q := q) (f := f) (l := r) (o := o) (by simpa using h)
    simp only [selS, List.length_map] at ih
    simp only [selB, selS, List.filter_cons]
    by_cases hq : q x = true
    · rw [if_pos hq, if_pos hq]; simp [ih]
    · rw [if_neg hq, if_neg hq]; simp [ih]
theorem selS_le (q : Sh4 → Bool) (f : Sh4 → Sh4) (l : List Sh4) : (selS q f l).length ≤ l.length := by
  rw [selS, List.length_map]; exact List.length_filter_le _ _
theorem wntK_is (k : Nat) : ∀ (l : List Sh4) (o : List Bool), (∀ s ∈ l, 0 ≤ s.a) → wntK k (l.map Sh4.shw) o = selB (fun s => s.a == (k : Int)) l o
  | [], _, _ => by simp [wntK, selB]
  | _ :: _, [], _ => rfl
  | x :: r, y :: o, h => by
    have ih := wntK_is k r o (fun s hs => h s (List.mem_cons_of_mem _ hs))
    have h0 := h x List.mem_cons_self
    have e : x.shw.i = k ↔ (x.a == (k : Int)) = true := by
      show x.a.toNat = k ↔ _
      rw [beq_iff_eq]; omega
    simp only [List.map_cons, wntK, selB, ih]
    by_cases hk : x.shw.i = k
    · rw [if_pos hk, if_pos (e.1 hk)]
    · rw [if_neg hk, if_neg (fun h2 => hk (e.2 h2))]
theorem ownS_is (k : Nat) : ∀ (l : List Sh4), (∀ s ∈ l, 0 ≤ s.a) → ownS k (l.map Sh4.shw) = (selS (fun s => s.a == (k : Int)) (fun s => { s with a := 0 }) l).map Sh4.shw
  | [], _ => rfl
  | x :: r, h => by
    have ih := ownS_is k r (fun s hs => h s (List.mem_cons_of_mem _ hs))
    have h0 := h x List.mem_cons_self
    have e : x.shw.i = k ↔ (x.a == (k : Int)) = true := by
      show x.a.toNat = k ↔ _
      rw [beq_iff_eq]; omega
    simp only [ownS, selS] at ih ⊢
    rw [List.map_cons, List.filter_cons, List.filter_cons]
    by_cases hk : x.shw.i = k
    · rw [if_pos (by simpa using hk), if_pos (e.1 hk), List.map_cons, List.map_cons, List.map_cons, ih]; rfl
    · rw [if_neg (by simpa using hk), if_neg (fun h2 => hk (e.2 h2)), ih]
end
set_option maxHeartbeats 16000000 in
theorem rdlocks_self (A : Option Addr) (cp n : Nat) (Ps : List LkP) (B : Option Addr) (cq : Nat) (Qs : List LkP) (w : World) (hn : Ps.length = n) (hn9 : n ≤ 1000) (hq : Qs.map LkP.L = Ps.map LkP.L) (ha : Locks w A Ps) (hb : Locks w B Qs) :
    Calls Tryz.prog 11 #[.slice A n cp, .slice B n cq] w fun e w' => e = .returned (.bool true) ∧ Below w.heap.size w w' := by
  have hm : Qs.length = n := by
    have := congrArg List.length hq
    rw [List.length_map, List.length_map, hn] at this; exact this
  have ⟨H_ha, H_hb, H_hn, H_hm, H_hq⟩ := hid5 ha hb hn hm hq; clear ha hb hn hm hq
  go_enter Tryz.func11, Tryz.ntmps11
  go_wp2_with fail
  go_loopw [5] (fun i wr => ∃ (j : Nat), j ≤ n ∧ i = .int .i64 j ∧ Below w.heap.size w wr) (fun i _ => n - (intOf i).toNat)
  case atStart => exact ⟨0, by omega, rfl, Below.refl _ _⟩
  case round =>
    obtain ⟨j, hj, rfl, hbw⟩ := hrel
    by_cases hlt : j < n
    · obtain ⟨⟨L, A1, p1, B1, r1⟩, hP⟩ : ∃ P, Ps[j]? = some P := ⟨_, List.getElem?_eq_getElem (by rw [H_hn.out]; exact hlt)⟩
      obtain ⟨⟨M, A2, p2, B2, r2⟩, hQ⟩ : ∃ P, Qs[j]? = some P := ⟨_, List.getElem?_eq_getElem (by rw [H_hm.out]; exact hlt)⟩
      have eM : M = L := by
        have := congrArg (fun l => l[j]?) H_hq.out
        simp only [List.getElem?_map, hP, hQ, Option.map_some, Option.some.injEq] at this
        exact this
      subst eM
      obtain ⟨b, off, rfl, hbl, hok, hcell⟩ := (H_ha.out.below hbw).at hP
      obtain ⟨b', off', rfl, hbl', hok', hcell'⟩ := (H_hb.out.below hbw).at hQ
      have f1 := hok.fx.few
      have f2 := hok.fy.few
      dsimp only at f1 f2
      have q := fun W (h : Below wr.heap.size wr W) => rlsame_self M A1 M.x.l.length p1 B1 M.y.l.length r1 A2 p2 B2 r2 rfl rfl (by omega) (by omega) W (hok.below h).a (hok.below h).b (hok'.below h).a (hok'.below h).b
      have c0 := hcell 0 _ rfl; have c1 := hcell 1 _ rfl; have c2 := hcell 2 _ rfl; have c3 := hcell 3 _ rfl; have c4 := hcell 4 _ rfl; have c5 := hcell 5 _ rfl; have c6 := hcell 6 _ rfl; have c7 := hcell 7 _ rfl; have c8 := hcell 8 _ rfl; have c9 := hcell 9 _ rfl; have c10 := hcell 10 _ rfl; have c11 := hcell 11 _ rfl
      have d0 := hcell' 0 _ rfl; have d1 := hcell' 1 _ rfl; have d2 := hcell' 2 _ rfl; have d3 := hcell' 3 _ rfl; have d4 := hcell' 4 _ rfl; have d5 := hcell' 5 _ rfl; have d6 := hcell' 6 _ rfl; have d7 := hcell' 7 _ rfl; have d8 := hcell' 8 _ rfl; have d9 := hcell' 9 _ rfl; have d10 := hcell' 10 _ rfl; have d11 := hcell' 11 _ rfl
      simp only [Nat.add_zero] at c0 d0
      clear hcell hok hcell' hok' f1 f2
      unfold Lk.cells at q
      dsimp only at c0 c1 c2 c3 c4 c5 c6 c7 c8 c9 c10 c11 d0 d1 d2 d3 d4 d5 d6 d7 d8 d9 d10 d11
      have g1 : (j : Int) < (n : Int) := by omega
      have g0 : (0 : Int) ≤ (j : Int) := by omega
      have hs := hbw.size
      have ⟨H_q, H_hP, H_hQ, H_hbw⟩ := hid4 q hP hQ hbw; clear q hP hQ hbw
      go_upto_region 6 with (fail)
      refine wp_region_held_drew (S := (fun W => (∀ b o, b < wr.heap.size → W.cell? ⟨b, o, none⟩ = wr.cell? ⟨b, o, none⟩) ∧ Below wr.heap.size wr W)) (by kernel_rfl) ?_ (fun hHeld => ?_)
      · (try dsimp only); (first | (refine ext_mk ?_; exact belt))
      refine take_at (i := 0) (some 18) rfl rfl (by kernel_rfl) (fun _ _ _ h => h) (by rfl) (v := ?_) ?_ (by assumption) ?_
      rotate_left
      · intro W hSw; (try dsimp only at hSw); go_simp; (try with_reducible rfl)
      (try simp only [apz])
      refine take_at (i := 1) (some 19) rfl rfl (by kernel_rfl) (fun _ _ _ h => h) (by rfl) (v := ?_) ?_ (by assumption) ?_
      rotate_left
      · intro W hSw; (try dsimp only at hSw); go_simp; (try with_reducible rfl)
      (try simp only [apz])
      refine take_at (i := 2) (some 20) rfl rfl (by kernel_rfl) (fun _ _ _ h => h) (by rfl) (v := ?_) ?_ (by assumption) ?_
      rotate_left
      · intro W hSw; (try dsimp only at hSw); go_simp; (try with_reducible rfl)
      (try simp only [apz])
      refine take_at (i := 3) (some 21) rfl rfl (by kernel_rfl) (fun _ _ _ h => h) (by rfl) (v := ?_) ?_ (by assumption) ?_
      rotate_left
      · intro W hSw; (try dsimp only at hSw); go_simp; (try with_reducible rfl)
      (try simp only [apz])
      refine take_at (i := 4) (some 22) rfl rfl (by kernel_rfl) (fun _ _ _ h => h) (by rfl) (v := ?_) ?_ (by assumption) ?_
      rotate_left
      · intro W hSw; (try dsimp only at hSw); go_simp; (try with_reducible rfl)
      (try simp only [apz])
      refine take_at (i := 5) (some 23) rfl rfl (by kernel_rfl) (fun _ _ _ h => h) (by rfl) (v := ?_) ?_ (by assumption) ?_
      rotate_left
      · intro W hSw; (try dsimp only at hSw); go_simp; (try with_reducible rfl)
      (try simp only [apz])
      refine take_at (i := 6) (some 24) rfl rfl (by kernel_rfl) (fun _ _ _ h => h) (by rfl) (v := ?_) ?_ (by assumption) ?_
      rotate_left
      · intro W hSw; (try dsimp only at hSw); go_simp; (try with_reducible rfl)
      (try simp only [apz])
      refine take_at (i := 7) (some 25) rfl rfl (by kernel_rfl) (fun _ _ _ h => h) (by rfl) (v := ?_) ?_ (by assumption) ?_
      rotate_left
      · intro W hSw; (try dsimp only at hSw); go_simp; (try with_reducible rfl)
      (try simp only [apz])
      refine wpAnyH_ready (rs := [8]) (by kernel_rfl) (by simp) ?_
      refine AllReadyH.cons rfl (fun K hK => ?_) AllReadyH.nil
      go_simp
      (go_at_call 34; (with_reducible refine (H_q.out _ ?_).mono ?_); (focus (exact (And.right (by assumption : _ ∧ Below wr.heap.size wr _)))); rintro e w2 ⟨rfl, hbw2⟩; have gw2 := Below.trans (And.right (by assumption : _ ∧ Below wr.heap.size wr _)) (hbw2.mono (Below.size (And.right (by assumption : _ ∧ Below wr.heap.size wr _)))); have gsw2 := gw2.size; have hcf := bcell hbw2; have hcw2 := hcf.1; have hfw2 := hcf.2; have hsw2 := hbw2.size; (try simp only [World.size_alloc, World.heap_drewN, heap_drew] at hsw2); clear hbw2 hcf; (try have hzw2 : wr.heap.size < w2.heap.size := by omega))
      refine hK.out _ _ ?_ (fun hHeld => ?_)
      · (try dsimp only); (first | (refine ext_mk ?_; exact belt))
      clear hK K
      (try simp only [apz])
      refine take_at (i := 9) (some 6) rfl rfl (by kernel_rfl) (fun _ _ _ h => h) (by rfl) (v := ?_) ?_ (by assumption) ?_
      rotate_left
      · intro W hSw; (try dsimp only at hSw); go_simp; (try with_reducible rfl)
      (try simp only [apz])
      refine wpAnyH_done (by kernel_rfl) ?_ _
      have gF : Below wr.heap.size wr _ := And.right (by assumption)
      have gG := H_hbw.out.trans (gF.mono hs)
      clear c0 c1 c2 c3 c4 c5 c6 c7 c8 c9 c10 c11 d0 d1 d2 d3 d4 d5 d6 d7 d8 d9 d10 d11
      have ⟨H_gF, H_gG⟩ := hid2 gF gG; clear gF gG
      go_wp2_with fail
      go_roundw
      case rel => exact ⟨j + 1, by omega, by go_num, H_gG.out⟩
      case measure => simp [intOf]; omega
    · have g1 : ¬ (j : Int) < (n : Int) := by omega
      have H_hbw := Lib.hid hbw; clear hbw
      go_wp2_with fail
      go_ret
      exact ⟨rfl, H_hbw.out⟩
end Go.Proofs.YtclgncaghiinhaaGreatDoor
