/- Contract of lock.New. -/
import Derived.DeepKeys
import Derived.Deep.CutRange
import Derived.Test.YtclgncaghiinhaaGreatDoorM1
import Derived.Test.YtclgncaghiinhaaGreatDoorM10
import Derived.Test.YtclgncaghiinhaaGreatDoorM11
import Derived.Test.YtclgncaghiinhaaGreatDoorM15
import Derived.Test.YtclgncaghiinhaaGreatDoorM16
import Derived.Test.YtclgncaghiinhaaGreatDoorM22
import Derived.Test.YtclgncaghiinhaaGreatDoorM35
set_option linter.unusedSimpArgs false
set_option linter.unusedVariables false
set_option maxRecDepth 100000
namespace Go.Proofs.YtclgncaghiinhaaGreatDoor
open Go.RowKit
theorem ris_ins : ∀ (l : List Int) (d x : Int), risB d l = true → d < x → x ≤ 1000000 → ¬ x ∈ l → risB d (insL l (l.countP (· < x)) x) = true
  | [], d, x, _, h1, h2, _ => by
    simp only [List.countP_nil, insL, List.take_nil, List.drop_nil, List.nil_append, risB, Bool.and_true]
    exact wB_iff.2 (by omega)
  | y :: r, d, x, h, h1, h2, hx => by
    rw [risB, Bool.and_eq_true, wB_iff] at h
    have hx2 : ¬ x ∈ r := fun e => hx (List.mem_cons_of_mem _ e)
    have hne : x ≠ y := fun e => hx (by rw [e]; exact List.mem_cons_self)
    rw [List.countP_cons]
    by_cases hy : y < x
    · rw [if_pos (decide_eq_true hy)]
      have ih := ris_ins r y x h.2 hy h2 hx2
      have e : insL (y :: r) (r.countP (· < x) + 1) x = y :: insL r (r.countP (· < x)) x := by simp [insL]
      rw [e, risB, ih, Bool.and_true]
      exact wB_iff.2 h.1
    · have h0 : r.countP (· < x) = 0 := by
        rw [List.countP_eq_zero]
        intro z hz
        have := (ris_sorted y r h.2).2 z hz
        simp only [decide_eq_true_eq]; omega
      rw [if_neg (by simpa using hy), h0]
      have e : insL (y :: r) 0 x = x :: y :: r := by simp [insL]
      rw [show 0 + 0 = 0 from rfl, e, risB, risB, h.2, Bool.and_true, Bool.and_eq_true]
      exact ⟨wB_iff.2 (by omega), wB_iff.2 (by omega)⟩
theorem keep_fld {L : Lk} (h : lvB L = true) : (0 ≤ (keepS L).s ∧ (keepS L).s ≤ 1000000000) ∧ (0 ≤ (keepS L).c ∧ (keepS L).c ≤ 1000000000) ∧ (keepS L).l.length ≤ 500 ∧ risB 0 (keepS L).l = true := by
  have h1 := keep_ok (lv_best h)
  simp only [Slt.ok, vldB, Bool.and_eq_true] at h1
  have h2 := fldB_iff.1 h1.1
  exact ⟨by omega, by omega, by omega, h2.2⟩
/-- where the kept slot has room, a card can be written -/
theorem write_may {L : Lk} {c : Crd} {a : Int} (hv : lvB L = true) (hc : cvB c = true) (hs : (keepS L).s < 1000000000) (hl : (keepS L).l.length < 500) (ha : 0 ≤ a ∧ a ≤ 3) : shWE L c a = 0 := by
  obtain ⟨k1, k2, k3, k4⟩ := keep_fld hv
  obtain ⟨_, hk⟩ := cvB_iff.1 hc
  have hC : 0 ≤ aftC L c ∧ aftC L c ≤ 1000000000 := by
    unfold aftC; split
    · rename_i e; rcases hk with hk | hk | hk <;> omega
    · exact k2
  have hL : (aftL L c).length ≤ 500 ∧ risB 0 (aftL L c) = true := by
    refine ⟨by have := aftL_len L c; omega, ?_⟩
    unfold aftL; split
    · rename_i e
      unfold revL; split
      · exact k4
      · rename_i hm
        exact ris_ins _ _ _ k4 (by rcases hk with hk | hk | hk <;> omega) (by rcases hk with hk | hk | hk <;> omega) (by simpa using hm)
    · exact k4
  have hF : fldB 0 (aftC L c) (aftL L c) = true := fldB_iff.2 ⟨⟨by omega, by omega, by omega⟩, hL.2⟩
  unfold shWE; split
  · unfold wrE
    rw [if_neg (by omega), hF, top_keep (lv_best hv), if_neg (by simp), wB_iff.2 ha, if_neg (by simp), if_neg (by omega)]
  · rfl
/-- May, and what counts at a door, by the cards before -/
def rvkD (bs : List Crd) (i : Int) : Bool := bs.any fun b => decide (b.k = 3) && decide (b.l = i)
def newD (bs : List Crd) (n : Int) : Bool := bs.any fun b => decide (b.k = 1) && decide (n < b.n)
def inD (c : Crd) (t : Int) : Bool := decide (c.f ≤ t) && decide (t < c.u)
def mayD (bs : List Crd) (c : Crd) (key t : Int) : Bool := !decide (c.k = 3) && !rvkD bs c.i && !(decide (c.k = 1) && newD bs c.n) && inD c t && chkB c key
def cntD (bs : List Crd) (c : Crd) (door key t : Int) : Bool := (decide (c.d = door) || decide (c.d = 0)) && !rvkD bs c.i && !(decide (c.k = 1) && newD bs c.n) && inD c t && chkB c key
/-- a lock that has been shown the cards bs -/
structure Bef (L : Lk) (bs : List Crd) (door key : Int) : Prop where
  v : lvB L = true
  d : L.d = door
  k : L.k = key
  r : L.r = 0
  c1 : ∀ b ∈ bs, b.k = 1 → b.n ≤ (keepS L).c
  c2 : (keepS L).c = 0 ∨ ∃ b ∈ bs, b.k = 1 ∧ b.n = (keepS L).c
  l : ∀ x, x ∈ (keepS L).l ↔ ∃ b ∈ bs, b.k = 3 ∧ b.l = x
  s : (keepS L).s ≤ 1 + bs.length
  len : (keepS L).l.length ≤ bs.length
theorem Bef.rev {L : Lk} {bs : List Crd} {door key : Int} (h : Bef L bs door key) (i : Int) : rvkD bs i = true ↔ i ∈ (keepS L).l := by
  rw [h.l, rvkD, List.any_eq_true]
  simp only [Bool.and_eq_true, decide_eq_true_eq]
theorem Bef.newer {L : Lk} {bs : List Crd} {door key : Int} (h : Bef L bs door key) {n : Int} (hn : 0 ≤ n) : newD bs n = true ↔ n < (keepS L).c := by
  rw [newD, List.any_eq_true]
  simp only [Bool.and_eq_true, decide_eq_true_eq]
  constructor
  · rintro ⟨b, hb, hk, hlt⟩; have := h.c1 b hb hk; omega
  · intro hlt
    rcases h.c2 with e | ⟨b, hb, hk, e⟩
    · omega
    · exact ⟨b, hb, hk, by omega⟩
theorem exact_may {t f u : Int} (ht : timeB t = true) (hp : 0 ≤ f ∧ f ≤ u ∧ u ≤ 1000000000) : (askB t 0 f u = true ∧ mayB t 0 f u = true) ↔ f ≤ t ∧ t < u := by
  have h := timeB_iff.1 ht
  have ha : askB t 0 f u = true := askB_iff.2 ⟨⟨h, by omega, by omega⟩, hp⟩
  rw [mayB, ha, Bool.true_and, decide_eq_true_eq]
  simp only [true_and, loT, hiT]
  omega
theorem Bef.acc {L : Lk} {bs : List Crd} {door key : Int} (h : Bef L bs door key) {c : Crd} {t a : Int} (hc : cvB c = true) (ht : timeB t = true) (ha : 0 ≤ a ∧ a ≤ 3) (hb : bs.length ≤ 400) :
    shE { L with up := true } c t a = 0 ↔ cntD bs c door key t = true := by
  have hv : lvB { L with up := true } = true := h.v
  obtain ⟨hbase, hk⟩ := cvB_iff.1 hc
  have hper : 0 ≤ c.f ∧ c.f ≤ c.u ∧ c.u ≤ 1000000000 := by obtain ⟨h1, h2, h3, h4, h5, h6⟩ := hbase; omega
  have hw : shWE { L with up := true } c a = 0 := write_may hv hc (by have := h.s; rw [keep_up]; omega) (by have := h.len; rw [keep_up]; omega) ha
  have e : shE { L with up := true } c t a = 0 ↔ chkB c L.k = true ∧ accB { L with up := true } c t = true := by
    rw [shE, if_pos ⟨hv, hc, ht, by omega, by omega⟩, if_pos rfl, hw]
    simp only
    split
    · split
      · rename_i h1 h2; exact ⟨fun _ => ⟨h1, h2⟩, fun _ => rfl⟩
      · rename_i h1 h2; exact ⟨fun h => absurd h (by omega), fun h => absurd h.2 h2⟩
    · rename_i h1; exact ⟨fun h => absurd h (by omega), fun h => absurd h.1 h1⟩
  have ku : keepS { L with up := true } = keepS L := rfl
  rw [e, acc_iff, ku, h.k]
  simp only [h.d, h.r]
  rw [exact_may ht hper, cntD, Bool.and_eq_true, Bool.and_eq_true, Bool.and_eq_true, Bool.and_eq_true, Bool.or_eq_true, decide_eq_true_eq, decide_eq_true_eq, Bool.not_eq_true', inD, Bool.and_eq_true, decide_eq_true_eq, decide_eq_true_eq, Bool.not_eq_true']
  have hr := h.rev c.i
  rw [← Bool.not_eq_true (rvkD bs c.i), hr, ← Bool.not_eq_true (decide (c.k = 1) && newD bs c.n), Bool.and_eq_true, decide_eq_true_eq]
  have hn : c.k = 1 → (newD bs c.n = true ↔ c.n < (keepS L).c) := fun h1 => h.newer (by rcases hk with hk | hk | hk <;> omega)
  constructor
  · rintro ⟨x1, x2, x3, x4, x5⟩
    refine ⟨⟨⟨⟨x3, x4⟩, ?_⟩, x2⟩, x1⟩
    rintro ⟨y1, y2⟩
    have := (hn y1).1 y2
    have := x5 y1
    omega
  · rintro ⟨⟨⟨⟨x3, x4⟩, x5⟩, x2⟩, x1⟩
    refine ⟨x1, x2, x3, x4, fun y1 => ?_⟩
    rcases (show (keepS L).c ≤ c.n ∨ c.n < (keepS L).c by omega) with z | z
    · exact z
    · exact absurd ⟨y1, (hn y1).2 z⟩ x5
/-- one card more -/
theorem Bef.step {L : Lk} {bs : List Crd} {door key : Int} (h : Bef L bs door key) {c : Crd} {t a : Int} (hc : cvB c = true) (ht : timeB t = true) (ha : 0 ≤ a ∧ a ≤ 3) (hb : bs.length ≤ 400) :
    (stp L c t a).2 = (mayD bs c key t && (decide (c.d = door) || decide (c.d = 0)) && decide (a = 3)) ∧ Bef (stp L c t a).1 (if 2 ≤ a ∧ cntD bs c door key t = true then bs ++ [c] else bs) door key := by
  have hacc := h.acc hc ht ha hb
  have hm : (mayD bs c key t && (decide (c.d = door) || decide (c.d = 0))) = (cntD bs c door key t && !decide (c.k = 3)) := by
    rw [mayD, cntD]
    generalize (decide (c.d = door) || decide (c.d = 0)) = x1
    generalize decide (c.k = 3) = x2
    generalize rvkD bs c.i = x3
    generalize (decide (c.k = 1) && newD bs c.n) = x4
    generalize inD c t = x5
    generalize chkB c key = x6
    cases x1 <;> cases x2 <;> cases x3 <;> cases x4 <;> cases x5 <;> cases x6 <;> rfl
  rw [hm]
  by_cases h0 : shE { L with up := true } c t a = 0
  · have hcn := hacc.1 h0
    have x := left_of h0
    have xs := left_s h0
    rw [hcn]
    unfold stp
    rw [if_pos h0]
    refine ⟨?_, ?_⟩
    · simp only
      rw [shO, if_pos h0, Bool.true_and, Bool.and_comm]
    · simp only
      by_cases h2 : 2 ≤ a
      · rw [if_pos (⟨h2, by first | rfl | trivial⟩ : _ ∧ _)]
        obtain ⟨n1, n2⟩ := x.new h2
        have eC : aftC { L with up := true } c = aftC L c := rfl
        have eL : aftL { L with up := true } c = aftL L c := rfl
        rw [eC] at n1
        rw [eL] at n2
        refine ⟨x.v, by rw [x.d]; exact h.d, by rw [x.k]; exact h.k, by rw [x.r]; exact h.r, fun b hb hk => ?_, ?_, fun y => ?_, ?_, ?_⟩
        · rw [n1]
          rcases List.mem_append.1 hb with hb | hb
          · have := h.c1 b hb hk; have := aft_ge L c; omega
          · have : b = c := by simpa using hb
            subst this
            rw [aftC, if_pos hk]; omega
        · rw [n1, aftC]
          split
          · rename_i hk
            rcases (show (keepS L).c ≤ c.n ∨ c.n < (keepS L).c by omega) with z | z
            · right; exact ⟨c, by simp, hk, by omega⟩
            · rcases h.c2 with e | ⟨b, hb, hk2, e⟩
              · left; omega
              · right; exact ⟨b, List.mem_append_left _ hb, hk2, by omega⟩
          · rcases h.c2 with e | ⟨b, hb, hk2, e⟩
            · left; exact e
            · right; exact ⟨b, List.mem_append_left _ hb, hk2, e⟩
        · rw [n2, aftL]
          split
          · rename_i hk
            rw [mem_revL, h.l]
            constructor
            · rintro (rfl | ⟨b, hb, hk2, e⟩)
              · exact ⟨c, by simp, hk, rfl⟩
              · exact ⟨b, List.mem_append_left _ hb, hk2, e⟩
            · rintro ⟨b, hb, hk2, e⟩
              rcases List.mem_append.1 hb with hb | hb
              · exact .inr ⟨b, hb, hk2, e⟩
              · have : b = c := by simpa using hb
                subst this; exact .inl e.symm
          · rename_i hk
            rw [h.l]
            constructor
            · rintro ⟨b, hb, hk2, e⟩; exact ⟨b, List.mem_append_left _ hb, hk2, e⟩
            · rintro ⟨b, hb, hk2, e⟩
              rcases List.mem_append.1 hb with hb | hb
              · exact ⟨b, hb, hk2, e⟩
              · have : b = c := by simpa using hb
                subst this; exact absurd hk2 hk
        · rw [xs, List.length_append]
          have := h.s
          rw [keep_up]
          split
          · simp only [List.length_cons, List.length_nil]; omega
          · simp only [List.length_cons, List.length_nil]; omega
        · rw [n2, List.length_append]
          have := aftL_len L c
          have := h.len
          simp only [List.length_cons, List.length_nil]; omega
      · rw [if_neg (fun e => h2 e.1)]
        have o := x.old (by omega)
        rw [keep_up] at o
        exact ⟨x.v, by rw [x.d]; exact h.d, by rw [x.k]; exact h.k, by rw [x.r]; exact h.r, by rw [o]; exact h.c1, by rw [o]; exact h.c2, by rw [o]; exact h.l, by rw [o]; exact h.s, by rw [o]; exact h.len⟩
  · have hcn : cntD bs c door key t = false := by
      rw [Bool.eq_false_iff]; exact fun e => h0 (hacc.2 e)
    rw [hcn, Bool.false_and, if_neg (by simp)]
    unfold stp
    rw [if_neg h0]
    exact ⟨rfl, ⟨h.v, h.d, h.k, h.r, h.c1, h.c2, h.l, h.s, h.len⟩⟩
section
open Go.RowKit Go.Maps
/-- the card of a guest that was not signed -/
def gst (id door n : Int) : Crd := ⟨id, 1, door, n, 100, 900, 0, 0, 0⟩
theorem gst_v {id door n : Int} {e s : Int} (h1 : 1 ≤ id ∧ id ≤ 1000000) (h2 : 1 ≤ door ∧ door ≤ 400) (h3 : 1 ≤ n ∧ n ≤ 1000000000) (he : 0 ≤ e ∧ e < 1073741789) (hs : 0 ≤ s ∧ s < 1073741789) : cvB ((gst id door n).sig e s) = true := by
  exact cvB_iff.2 ⟨⟨he, hs, h1, by simp [gst, Crd.sig], by simp [gst, Crd.sig], by simp [gst, Crd.sig]⟩, .inl ⟨rfl, h2, h3, rfl⟩⟩
theorem sig_nat {s o : Nat} {l : List Int} : (0 ≤ ((sigE s o l : Nat) : Int) ∧ ((sigE s o l : Nat) : Int) < 1073741789) ∧ 0 ≤ ((sigS s o l : Nat) : Int) ∧ ((sigS s o l : Nat) : Int) < 1073741789 := by
  have h1 := sigE_lt s o l
  have h2 := sigS_lt s o l
  have : QQ = 1073741789 := rfl
  omega
theorem chk_right {c : Crd} {s o : Nat} (hv : cvB (c.sig (sigE s o c.msg) (sigS s o c.msg)) = true) : chkB (c.sig (sigE s o c.msg) (sigS s o c.msg)) ((pw 4 s PP : Nat) : Int) = true ∧ chkE (c.sig (sigE s o c.msg) (sigS s o c.msg)) ((pw 4 s PP : Nat) : Int) = 0 := by
  have hm : memZ ((pw 4 s PP : Nat) : Int) = true := memZ_pw
  refine ⟨?_, by simp [chkE, hv, hm]⟩
  rw [chkB, hv, hm, Bool.true_and, Bool.true_and, msg_sig]
  exact right_law s o c.msg
end
section
open Go.RowKit Go.Maps
/-- Make, whatever it is called with -/
def mkdC (c : Crd) (s o : Int) : Crd := if mayMk c s o = true then c.sig (sigE s.toNat o.toNat c.msg) (sigS s.toNat o.toNat c.msg) else Crd.zero
def mkdE (c : Crd) (s o : Int) : Int := if mayMk c s o = true then 0 else 1
theorem may_nat {c : Crd} {s o : Int} (h : mayMk c s o = true) : cvB (c.sig 0 0) = true ∧ wthB s 1 = true ∧ wthB o 1 = true ∧ ((s.toNat : Nat) : Int) = s ∧ ((o.toNat : Nat) : Int) = o := by
  simp only [mayMk, Bool.and_eq_true] at h
  obtain ⟨h1, h2, h3⟩ := h
  have := wthB_iff.1 h2
  have := wthB_iff.1 h3
  exact ⟨h1, h2, h3, by omega, by omega⟩
theorem cmake_any (c : Crd) (s o : Int) (hc : CFit c) (w : World) (ht : Tab w) :
    Calls Tryz.prog 18 #[.agg c.cells.toArray, .int .i64 s, .int .i64 o] w fun e w' => e = .returned (.tuple #[.agg (mkdC c s o).cells.toArray, .int .i64 (mkdE c s o)]) ∧ Below w.heap.size w w' := by
  cases h : mayMk c s o with
  | true =>
    obtain ⟨h1, h2, h3, h4, h5⟩ := may_nat h
    have := cmake_yes c s.toNat o.toNat hc h1 (by rw [h4]; exact h2) (by rw [h5]; exact h3) w ht
    rw [h4, h5] at this
    rw [mkdC, mkdE, if_pos h, if_pos h]; exact this
  | false =>
    rw [mkdC, mkdE, if_neg (by simp [h]), if_neg (by simp [h])]
    exact cmake_no c s o hc h w
theorem mkd_fit {c : Crd} (s o : Int) (hc : CFit c) : CFit (mkdC c s o) := by
  unfold mkdC; split
  · have := @sig_int s.toNat o.toNat c.msg; exact hc.sig this.1 this.2
  · exact cfit_zero
theorem mkd_v {c : Crd} {s o : Int} (h : mayMk c s o = true) : cvB (mkdC c s o) = true := by
  obtain ⟨h1, _⟩ := may_nat h
  have hn := @sig_nat s.toNat o.toNat c.msg
  rw [mkdC, if_pos h]
  rw [cvB_iff] at h1 ⊢
  obtain ⟨⟨_, _, b1, b2, b3, b4⟩, k⟩ := h1
  exact ⟨⟨hn.1, hn.2, b1, b2, b3, b4⟩, k⟩
theorem mkd_right {c : Crd} {s o : Int} (h : mayMk c s o = true) : chkB (mkdC c s o) ((pw 4 s.toNat PP : Nat) : Int) = true ∧ chkE (mkdC c s o) ((pw 4 s.toNat PP : Nat) : Int) = 0 := by
  have hv := mkd_v h
  rw [mkdC, if_pos h] at hv ⊢
  exact chk_right hv
end
/-- what New returns -/
def nwR (d k r : Int) : Lk := if fmB d k r = true then ⟨d, k, r, Slt.made 1 0 [], Slt.zero, true⟩ else Lk.zero
def nwE (d k r : Int) : Int := if fmB d k r = true then 0 else 1
theorem mkE10 : mkE 1 0 [] = 0 := by decide
theorem mkS10 : mkS 1 0 [] = Slt.made 1 0 [] := by rw [mkS, if_pos mkE10]
set_option maxHeartbeats 4000000 in
theorem lnew_any (d k r : Int) (w : World) (ht : Tab w) : Calls Tryz.prog 16 #[.int .i64 d, .int .i64 k, .int .i64 r] w (LockErr none [] none [] (nwR d k r) (nwE d k r) w) := by
  have q2 := fun W => formed_any ⟨d, k, r, Slt.zero, Slt.zero, true⟩ none 0 0 none 0 0 W
  unfold Lk.cells Slt.zero at q2
  dsimp only at q2
  obtain ⟨w0, hw0⟩ : ∃ W, (w.alloc (.cells #[.int .i64 0, .int .i64 0, .int .i64 0, .int .i64 0, .int .i64 0, .slice none 0 0, .int .u64 0, .int .i64 0, .int .i64 0, .slice none 0 0, .int .u64 0, .bool false] 48)).alloc (.cells #[.int .i64 d, .int .i64 k, .int .i64 r, .int .i64 0, .int .i64 0, .slice none 0 0, .int .u64 0, .int .i64 0, .int .i64 0, .slice none 0 0, .int .u64 0, .bool true] 85) = W := ⟨_, rfl⟩
  have bb0 : Below w.heap.size w w0 := by rw [← hw0]; exact ((Below.refl _ _).alloc (Nat.le_refl _) _).alloc (by simp) _
  have g0 : Blk w0 w.heap.size #[.int .i64 0, .int .i64 0, .int .i64 0, .int .i64 0, .int .i64 0, .slice none 0 0, .int .u64 0, .int .i64 0, .int .i64 0, .slice none 0 0, .int .u64 0, .bool false] := by rw [← hw0]; exact (blk_new rfl).alloc _
  have k0 : Blk w0 (w.heap.size + 1) #[.int .i64 d, .int .i64 k, .int .i64 r, .int .i64 0, .int .i64 0, .slice none 0 0, .int .u64 0, .int .i64 0, .int .i64 0, .slice none 0 0, .int .u64 0, .bool true] := by rw [← hw0]; exact blk_new (by simp)
  have q1 := make_any 1 0 none 0 0 [] rfl w0 (by omega) (by omega) (fun i hi => absurd hi (by simp)) (by omega) (fun x hx => absurd hx (by simp)) (ht.below bb0)
  rw [mkE10, mkS10] at q1
  unfold SlotErr Slt.made at q1
  dsimp only [List.length_nil] at q1
  cases hv : fmB d k r with
  | false =>
    have e1 : nwR d k r = Lk.zero := by simp [nwR, hv]
    have e2 : nwE d k r = 1 := by simp [nwE, hv]
    rw [hv] at q2
    rw [e1, e2]
    generalize sumS 1 0 [] = S at *
    have ⟨H_bb0, H_k0, H_g0, H_hw0, H_q1, H_q2, H_ht⟩ := hid7 bb0 k0 g0 hw0 q1 q2 ht; clear bb0 k0 g0 hw0 q1 q2 ht
    go_enter Tryz.func16, Tryz.ntmps16
    go_wp2_with fail
    rw [H_hw0.out]
    go_wp2_with fail
    (with_reducible refine (H_q1.out).mono ?_)
    rintro e w1 ⟨A1, p1, rfl, own1, b1⟩
    have c1 : Below w0.heap.size w0 w1 := Below.trans belt (b1.mono omh)
    have s1 := c1.size
    have bb1 := H_bb0.out.trans (c1.mono H_bb0.out.size)
    have k1 := H_k0.out.below c1
    have g1 := H_g0.out.below c1
    have ⟨H_b1, H_c1, H_bb1, H_k1, H_g1⟩ := hid5 b1 c1 bb1 k1 g1; clear b1 c1 bb1 k1 g1
    obtain ⟨y0, y1, y2, y3, y4, y5, y6, y7, y8, y9, y10, y11⟩ := at12_of H_k1.out
    have ly := (H_k1.out 0 _ rfl).lt
    go_wp2_with fail
    (with_reducible refine (H_q2.out _).mono ?_)
    rintro e w2 ⟨rfl, b2⟩
    have c2 : Below w1.heap.size w1 w2 := Below.trans belt (b2.mono omh)
    have s2 := c2.size
    have bb2 := H_bb1.out.trans (c2.mono H_bb1.out.size)
    have k2 := H_k1.out.below c2
    have g2 := H_g1.out.below c2
    have ⟨H_b2, H_c2, H_bb2, H_k2, H_g2⟩ := hid5 b2 c2 bb2 k2 g2; clear b2 c2 bb2 k2 g2
    clear y0 y1 y2 y3 y4 y5 y6 y7 y8 y9 y10 y11
    obtain ⟨z0, z1, z2, z3, z4, z5, z6, z7, z8, z9, z10, z11⟩ := at12_of H_g2.out
    have lz := (H_g2.out 0 _ rfl).lt
    have b3 : Below w.heap.size w (putL w2 w.heap.size 0 [.int .i64 0, .int .i64 0, .int .i64 0, .int .i64 0, .int .i64 0, .slice none 0 0, .int .u64 0, .int .i64 0, .int .i64 0, .slice none 0 0, .int .u64 0, .bool false]) := putL_below (Nat.le_refl _) _ _ _ H_bb2.out
    simp only [putL, Nat.reduceAdd] at b3
    have H_b3 := Lib.hid b3; clear b3
    obtain ⟨f0, f1, f2, f3, f4, f5, f6, f7, f8, f9, f10, f11⟩ := free12_of H_g2.out
    go_wp2_with fail
    refine bodyPost_ret (v := .tuple #[.agg #[.int .i64 0, .int .i64 0, .int .i64 0, .int .i64 0, .int .i64 0, .slice none 0 0, .int .u64 0, .int .i64 0, .int .i64 0, .slice none 0 0, .int .u64 0, .bool false], .int .i64 1]) (by simp [results, Tryz.results16, go_sem, *]) rfl (lockErr_zero H_b3.out)
  | true =>
    have e1 : nwR d k r = ⟨d, k, r, Slt.made 1 0 [], Slt.zero, true⟩ := by simp [nwR, hv]
    have e2 : nwE d k r = 0 := by simp [nwE, hv]
    rw [hv] at q2
    rw [e1, e2]
    unfold LockErr Lk.cells Slt.made Slt.zero
    dsimp only [List.length_nil]
    generalize sumS 1 0 [] = S at *
    have ⟨H_bb0, H_k0, H_g0, H_hw0, H_q1, H_q2, H_ht⟩ := hid7 bb0 k0 g0 hw0 q1 q2 ht; clear bb0 k0 g0 hw0 q1 q2 ht
    go_enter Tryz.func16, Tryz.ntmps16
    go_wp2_with fail
    rw [H_hw0.out]
    go_wp2_with fail
    (with_reducible refine (H_q1.out).mono ?_)
    rintro e w1 ⟨A1, p1, rfl, own1, b1⟩
    have c1 : Below w0.heap.size w0 w1 := Below.trans belt (b1.mono omh)
    have s1 := c1.size
    have bb1 := H_bb0.out.trans (c1.mono H_bb0.out.size)
    have k1 := H_k0.out.below c1
    have g1 := H_g0.out.below c1
    have ⟨H_b1, H_c1, H_bb1, H_k1, H_g1⟩ := hid5 b1 c1 bb1 k1 g1; clear b1 c1 bb1 k1 g1
    obtain ⟨y0, y1, y2, y3, y4, y5, y6, y7, y8, y9, y10, y11⟩ := at12_of H_k1.out
    have ly := (H_k1.out 0 _ rfl).lt
    have o0 : Blk (w1.alloc (.cells #[.int .i64 1, .int .i64 0, .slice A1 0 p1, .int .u64 S] 45)) w1.heap.size #[.int .i64 1, .int .i64 0, .slice A1 0 p1, .int .u64 S] := blk_new rfl
    go_wp2_with fail
    (with_reducible refine (H_q2.out _).mono ?_)
    rintro e w2 ⟨rfl, b2⟩
    have c2 : Below w1.heap.size w1 w2 := Below.trans belt (b2.mono omh)
    have s2 := c2.size
    have bb2 := H_bb1.out.trans (c2.mono H_bb1.out.size)
    have k2 := H_k1.out.below c2
    have g2 := H_g1.out.below c2
    have ⟨H_b2, H_c2, H_bb2, H_k2, H_g2⟩ := hid5 b2 c2 bb2 k2 g2; clear b2 c2 bb2 k2 g2
    clear y0 y1 y2 y3 y4 y5 y6 y7 y8 y9 y10 y11
    have o2 := o0.below H_b2.out
    have lo := (o2 0 _ rfl).lt
    have H_o2 := Lib.hid o2; clear o2
    obtain ⟨z0, z1, z2, z3, z4, z5, z6, z7, z8, z9, z10, z11⟩ := at12_of H_g2.out
    obtain ⟨y0, y1, y2, y3, y4, y5, y6, y7, y8, y9, y10, y11⟩ := at12_of H_k2.out
    obtain ⟨x0, x1, x2, x3⟩ := at4_of H_o2.out
    have lz := (H_g2.out 0 _ rfl).lt
    have ly2 := (H_k2.out 0 _ rfl).lt
    have b3 : Below w.heap.size w (putL (putL w2 (w.heap.size + 1) 3 [.int .i64 1, .int .i64 0, .slice A1 0 p1, .int .u64 S]) w.heap.size 0 [.int .i64 d, .int .i64 k, .int .i64 r, .int .i64 1, .int .i64 0, .slice A1 0 p1, .int .u64 S, .int .i64 0, .int .i64 0, .slice none 0 0, .int .u64 0, .bool true]) := putL_below (Nat.le_refl _) _ _ _ (putL_below (by omega) _ _ _ H_bb2.out)
    simp only [putL, Nat.reduceAdd] at b3
    have H_b3 := Lib.hid b3; clear b3
    obtain ⟨f0, f1, f2, f3, f4, f5, f6, f7, f8, f9, f10, f11⟩ := free12_of H_g2.out
    obtain ⟨v0, v1, v2, v3, v4, v5, v6, v7, v8, v9, v10, v11⟩ := free12_of H_k2.out
    go_wp2_with fail
    refine bodyPost_ret (v := .tuple #[.agg #[.int .i64 d, .int .i64 k, .int .i64 r, .int .i64 1, .int .i64 0, .slice A1 0 p1, .int .u64 S, .int .i64 0, .int .i64 0, .slice none 0 0, .int .u64 0, .bool true], .int .i64 0]) (by simp [results, Tryz.results16, go_sem, *]) rfl ⟨A1, p1, none, 0, rfl, prov_nil _ _ _ _ _, prov_nil _ _ _ _ _, H_b3.out⟩
end Go.Proofs.YtclgncaghiinhaaGreatDoor
