/- Doors in plain Lean: a card that is revoked. -/
import Derived.Test.YtclgncaghiinhaaGreatDoorU36
set_option linter.unusedSimpArgs false
set_option linter.unusedVariables false
set_option maxRecDepth 100000
namespace Go.Proofs.YtclgncaghiinhaaGreatDoor
open Go.RowKit
theorem ris_ins : ∀ (l : List Int) (d x : Int), risB d l = true → d < x → x ≤ 1000000 → ¬ x ∈ l → risB d (insL l (l.countP (· < x)) x) = true
  | [], d, x, _, h1, h2, _ => by
    simp only [List.countP_nil, insL, List.take_nil, List.drop_nil, List.nil_append, risB, Bool.and_true]
    exact wB_iff.2 (by omega)
  | y :: r, d, x, h, h1, h2, hx => by
    rw [risB, Bool.and_eq_true, wB_iff] at h
    have hx2 : ¬ x ∈ r := fun e => hx (List.mem_cons_of_mem _ e)
    have hne : x ≠ y := fun e => hx (by rw [e]; exact List.mem_cons_self)
    rw [List.countP_cons]
    by_cases hy : y < x
    · rw [if_pos (decide_eq_true hy)]
      have ih := ris_ins r y x h.2 hy h2 hx2
      have e : insL (y :: r) (r.countP (· < x) + 1) x = y :: insL r (r.countP (· < x)) x := by simp [insL]
      rw [e, risB, ih, Bool.and_true]
      exact wB_iff.2 h.1
    · have h0 : r.countP (· < x) = 0 := by
        rw [List.countP_eq_zero]
        intro z hz
        have := (ris_sorted y r h.2).2 z hz
        simp only [decide_eq_true_eq]; omega
      rw [if_neg (by simpa using hy), h0]
      have e : insL (y :: r) 0 x = x :: y :: r := by simp [insL]
      rw [show 0 + 0 = 0 from rfl, e, risB, risB, h.2, Bool.and_true, Bool.and_eq_true]
      exact ⟨wB_iff.2 (by omega), wB_iff.2 (by omega)⟩
theorem keep_fld {L : Lk} (h : lvB L = true) : (0 ≤ (keepS L).s ∧ (keepS L).s ≤ 1000000000) ∧ (0 ≤ (keepS L).c ∧ (keepS L).c ≤ 1000000000) ∧ (keepS L).l.length ≤ 500 ∧ risB 0 (keepS L).l = true := by
 have h1 := keep_ok (lv_best h)
 simp only [Slt.ok, vldB, Bool.and_eq_true] at h1
 have h2 := fldB_iff.1 h1.1
 exact ⟨by omega, by omega, by omega, h2.2⟩
/-- where the kept slot has room, a card can be written -/
theorem write_may {L : Lk} {c : Crd} {a : Int} (hv : lvB L = true) (hc : cvB c = true) (hs : (keepS L).s < 1000000000) (hl : (keepS L).l.length < 500) (ha : 0 ≤ a ∧ a ≤ 3) : shWE L c a = 0 := by
 obtain ⟨k1, k2, k3, k4⟩ := keep_fld hv
 obtain ⟨_, hk⟩ := cvB_iff.1 hc
 have hC : 0 ≤ aftC L c ∧ aftC L c ≤ 1000000000 := by
  unfold aftC; split
  ·rename_i e; rcases hk with hk | hk | hk <;> omega
  ·exact k2
 have hL : (aftL L c).length ≤ 500 ∧ risB 0 (aftL L c) = true := by
  refine ⟨by have := aftL_len L c; omega, ?_⟩
  unfold aftL; split
  ·rename_i e
   unfold revL; split
   ·exact k4
   ·rename_i hm
    exact ris_ins _ _ _ k4 (by rcases hk with hk | hk | hk <;> omega) (by rcases hk with hk | hk | hk <;> omega) (by simpa using hm)
  ·exact k4
 have hF : fldB 0 (aftC L c) (aftL L c) = true := fldB_iff.2 ⟨⟨by omega, by omega, by omega⟩, hL.2⟩
 unfold shWE; split
 ·unfold wrE
  rw [if_neg (by omega), hF, top_keep (lv_best hv), if_neg (by simp), wB_iff.2 ha, if_neg (by simp), if_neg (by omega)]
 ·rfl
/-- May, and what counts at a door, by the cards before -/
def rvkD (bs : List Crd) (i : Int) : Bool := bs.any fun b => decide (b.k = 3) && decide (b.l = i)
def newD (bs : List Crd) (n : Int) : Bool := bs.any fun b => decide (b.k = 1) && decide (n < b.n)
def inD (c : Crd) (t : Int) : Bool := decide (c.f ≤ t) && decide (t < c.u)
def mayD (bs : List Crd) (c : Crd) (key t : Int) : Bool := !decide (c.k = 3) && !rvkD bs c.i && !(decide (c.k = 1) && newD bs c.n) && inD c t && chkB c key
def cntD (bs : List Crd) (c : Crd) (door key t : Int) : Bool := (decide (c.d = door) || decide (c.d = 0)) && !rvkD bs c.i && !(decide (c.k = 1) && newD bs c.n) && inD c t && chkB c key
/-- a lock that has been shown the cards bs -/
structure Bef (L : Lk) (bs : List Crd) (door key : Int) : Prop where
 v : lvB L = true
 d : L.d = door
 k : L.k = key
 r : L.r = 0
 c1 : ∀ b ∈ bs, b.k = 1 → b.n ≤ (keepS L).c
 c2 : (keepS L).c = 0 ∨ ∃ b ∈ bs, b.k = 1 ∧ b.n = (keepS L).c
 l : ∀ x, x ∈ (keepS L).l ↔ ∃ b ∈ bs, b.k = 3 ∧ b.l = x
 s : (keepS L).s ≤ 1 + bs.length
 len : (keepS L).l.length ≤ bs.length
theorem Bef.rev {L : Lk} {bs : List Crd} {door key : Int} (h : Bef L bs door key) (i : Int) : rvkD bs i = true ↔ i ∈ (keepS L).l := by
 rw [h.l, rvkD, List.any_eq_true]
 simp only [Bool.and_eq_true, decide_eq_true_eq]
theorem Bef.newer {L : Lk} {bs : List Crd} {door key : Int} (h : Bef L bs door key) {n : Int} (hn : 0 ≤ n) : newD bs n = true ↔ n < (keepS L).c := by
 rw [newD, List.any_eq_true]
 simp only [Bool.and_eq_true, decide_eq_true_eq]
 constructor
 ·rintro ⟨b, hb, hk, hlt⟩; have := h.c1 b hb hk; omega
 ·intro hlt
  rcases h.c2 with e | ⟨b, hb, hk, e⟩
  ·omega
  ·exact ⟨b, hb, hk, by omega⟩
theorem exact_may {t f u : Int} (ht : timeB t = true) (hp : 0 ≤ f ∧ f ≤ u ∧ u ≤ 1000000000) : (askB t 0 f u = true ∧ mayB t 0 f u = true) ↔ f ≤ t ∧ t < u := by
 have h := timeB_iff.1 ht
 have ha : askB t 0 f u = true := askB_iff.2 ⟨⟨h, by omega, by omega⟩, hp⟩
 rw [mayB, ha, Bool.true_and, decide_eq_true_eq]
 simp only [true_and, loT, hiT]
 omega
theorem Bef.acc {L : Lk} {bs : List Crd} {door key : Int} (h : Bef L bs door key) {c : Crd} {t a : Int} (hc : cvB c = true) (ht : timeB t = true) (ha : 0 ≤ a ∧ a ≤ 3) (hb : bs.length ≤ 400) :
  shE { L with up := true } c t a = 0 ↔ cntD bs c door key t = true := by
 have hv : lvB { L with up := true } = true := h.v
 obtain ⟨hbase, hk⟩ := cvB_iff.1 hc
 have hper : 0 ≤ c.f ∧ c.f ≤ c.u ∧ c.u ≤ 1000000000 := by obtain ⟨h1, h2, h3, h4, h5, h6⟩ := hbase; omega
 have hw : shWE { L with up := true } c a = 0 := write_may hv hc (by have := h.s; rw [keep_up]; omega) (by have := h.len; rw [keep_up]; omega) ha
 have e : shE { L with up := true } c t a = 0 ↔ chkB c L.k = true ∧ accB { L with up := true } c t = true := by
  rw [shE, if_pos ⟨hv, hc, ht, by omega, by omega⟩, if_pos rfl, hw]
  simp only
  split
  ·split
   ·rename_i h1 h2; exact ⟨fun _ => ⟨h1, h2⟩, fun _ => rfl⟩
   ·rename_i h1 h2; exact ⟨fun h => absurd h (by omega), fun h => absurd h.2 h2⟩
  ·rename_i h1; exact ⟨fun h => absurd h (by omega), fun h => absurd h.1 h1⟩
 have ku : keepS { L with up := true } = keepS L := rfl
 rw [e, acc_iff, ku, h.k]
 simp only [h.d, h.r]
 rw [exact_may ht hper, cntD, Bool.and_eq_true, Bool.and_eq_true, Bool.and_eq_true, Bool.and_eq_true, Bool.or_eq_true, decide_eq_true_eq, decide_eq_true_eq, Bool.not_eq_true', inD, Bool.and_eq_true, decide_eq_true_eq, decide_eq_true_eq, Bool.not_eq_true']
 have hr := h.rev c.i
 rw [← Bool.not_eq_true (rvkD bs c.i), hr, ← Bool.not_eq_true (decide (c.k = 1) && newD bs c.n), Bool.and_eq_true, decide_eq_true_eq]
 have hn : c.k = 1 → (newD bs c.n = true ↔ c.n < (keepS L).c) := fun h1 => h.newer (by rcases hk with hk | hk | hk <;> omega)
 constructor
 ·rintro ⟨x1, x2, x3, x4, x5⟩
  refine ⟨⟨⟨⟨x3, x4⟩, ?_⟩, x2⟩, x1⟩
  rintro ⟨y1, y2⟩
  have := (hn y1).1 y2
  have := x5 y1
  omega
 ·rintro ⟨⟨⟨⟨x3, x4⟩, x5⟩, x2⟩, x1⟩
  refine ⟨x1, x2, x3, x4, fun y1 => ?_⟩
  rcases (show (keepS L).c ≤ c.n ∨ c.n < (keepS L).c by omega) with z | z
  ·exact z
  ·exact absurd ⟨y1, (hn y1).2 z⟩ x5
/-- one card more -/
theorem Bef.step {L : Lk} {bs : List Crd} {door key : Int} (h : Bef L bs door key) {c : Crd} {t a : Int} (hc : cvB c = true) (ht : timeB t = true) (ha : 0 ≤ a ∧ a ≤ 3) (hb : bs.length ≤ 400) :
    (stp L c t a).2 = (mayD bs c key t && (decide (c.d = door) || decide (c.d = 0)) && decide (a = 3)) ∧ Bef (stp L c t a).1 (if 2 ≤ a ∧ cntD bs c door key t = true then bs ++ [c] else bs) door key := by
  have hacc := h.acc hc ht ha hb
  have hm : (mayD bs c key t && (decide (c.d = door) || decide (c.d = 0))) = (cntD bs c door key t && !decide (c.k = 3)) := by
    rw [mayD, cntD]
    generalize (decide (c.d = door) || decide (c.d = 0)) = x1
    generalize decide (c.k = 3) = x2
    generalize rvkD bs c.i = x3
    generalize (decide (c.k = 1) && newD bs c.n) = x4
    generalize inD c t = x5
    generalize chkB c key = x6
    cases x1 <;> cases x2 <;> cases x3 <;> cases x4 <;> cases x5 <;> cases x6 <;> rfl
  rw [hm]
  by_cases h0 : shE { L with up := true } c t a = 0
  · have hcn := hacc.1 h0
    have x := left_of h0
    have xs := left_s h0
    rw [hcn]
    unfold stp
    rw [if_pos h0]
    refine ⟨?_, ?_⟩
    · simp only
      rw [shO, if_pos h0, Bool.true_and, Bool.and_comm]
    · simp only
      by_cases h2 : 2 ≤ a
      · rw [if_pos (⟨h2, by first | rfl | trivial⟩ : _ ∧ _)]
        obtain ⟨n1, n2⟩ := x.new h2
        have eC : aftC { L with up := true } c = aftC L c := rfl
        have eL : aftL { L with up := true } c = aftL L c := rfl
        rw [eC] at n1
        rw [eL] at n2
        refine ⟨x.v, by rw [x.d]; exact h.d, by rw [x.k]; exact h.k, by rw [x.r]; exact h.r, fun b hb hk => ?_, ?_, fun y => ?_, ?_, ?_⟩
        · rw [n1]
          rcases List.mem_append.1 hb with hb | hb
          · have := h.c1 b hb hk; have := aft_ge L c; omega
          · have : b = c := by simpa using hb
            subst this
            rw [aftC, if_pos hk]; omega
        · rw [n1, aftC]
          split
          · rename_i hk
            rcases (show (keepS L).c ≤ c.n ∨ c.n < (keepS L).c by omega) with z | z
            · right; exact ⟨c, by simp, hk, by omega⟩
            · rcases h.c2 with e | ⟨b, hb, hk2, e⟩
              · left; omega
              · right; exact ⟨b, List.mem_append_left _ hb, hk2, by omega⟩
          · rcases h.c2 with e | ⟨b, hb, hk2, e⟩
            · left; exact e
            · right; exact ⟨b, List.mem_append_left _ hb, hk2, e⟩
        · rw [n2, aftL]
          split
          · rename_i hk
            rw [mem_revL, h.l]
            constructor
            · rintro (rfl | ⟨b, hb, hk2, e⟩)
              · exact ⟨c, by simp, hk, rfl⟩
              · exact ⟨b, List.mem_append_left _ hb, hk2, e⟩
            · rintro ⟨b, hb, hk2, e⟩
              rcases List.mem_append.1 hb with hb | hb
              · exact .inr ⟨b, hb, hk2, e⟩
              · have : b = c := by simpa using hb
                subst this; exact .inl e.symm
          · rename_i hk
            rw [h.l]
            constructor
            · rintro ⟨b, hb, hk2, e⟩; exact ⟨b, List.mem_append_left _ hb, hk2, e⟩
            · rintro ⟨b, hb, hk2, e⟩
              rcases List.mem_append.1 hb with hb | hb
              · exact ⟨b, hb, hk2, e⟩
              · have : b = c := by simpa using hb
                subst this; exact absurd hk2 hk
        · rw [xs, List.length_append]
          have := h.s
          rw [keep_up]
          split
          · simp only [List.length_cons, List.length_nil]; omega
          · simp only [List.length_cons, List.length_nil]; omega
        · rw [n2, List.length_append]
          have := aftL_len L c
          have := h.len
          simp only [List.length_cons, List.length_nil]; omega
      · rw [if_neg (fun e => h2 e.1)]
        have o := x.old (by omega)
        rw [keep_up] at o
        exact ⟨x.v, by rw [x.d]; exact h.d, by rw [x.k]; exact h.k, by rw [x.r]; exact h.r, by rw [o]; exact h.c1, by rw [o]; exact h.c2, by rw [o]; exact h.l, by rw [o]; exact h.s, by rw [o]; exact h.len⟩
  · have hcn : cntD bs c door key t = false := by
      rw [Bool.eq_false_iff]; exact fun e => h0 (hacc.2 e)
    rw [hcn, Bool.false_and, if_neg (by simp)]
    unfold stp
    rw [if_neg h0]
    exact ⟨rfl, ⟨h.v, h.d, h.k, h.r, h.c1, h.c2, h.l, h.s, h.len⟩⟩
theorem stp_revoke {l : Lk} {c : Crd} {t a : Int} (hk : c.k = 3) : (stp l c t a).2 = false := by
 unfold stp; split
 ·rename_i e
  simp only
  rw [shO, if_pos e, decide_eq_true hk]; simp
 ·rfl
theorem stp_gone {l : Lk} {c : Crd} {t a : Int} (hm : c.i ∈ (keepS l).l) : (stp l c t a).2 = false := by
 rw [Bool.eq_false_iff]; exact fun h => (stp_guest h).2.2 hm
/-- a revoking card that is accepted -/
theorem lost_first {L : Lk} {c : Crd} {t : Int} (hv : lvB L = true) (hr : L.r = 0) (hc : cvB c = true) (ht : timeB t = true) (hk : c.k = 3) (hd : c.d = 0) (hp : c.f ≤ t ∧ t < c.u) (hchk : chkB c L.k = true) (hni : ¬ c.i ∈ (keepS L).l) (hs : (keepS L).s < 1000000000) (hl : (keepS L).l.length < 500) :
  c.l ∈ (keepS (stp L c t 3).1).l := by
 have hv2 : lvB { L with up := true } = true := hv
 have ku : keepS { L with up := true } = keepS L := rfl
 obtain ⟨hbase, _⟩ := cvB_iff.1 hc
 have hper : 0 ≤ c.f ∧ c.f ≤ c.u ∧ c.u ≤ 1000000000 := by obtain ⟨h1, h2, h3, h4, h5, h6⟩ := hbase; omega
 have hw : shWE { L with up := true } c 3 = 0 := write_may hv2 hc (by rw [ku]; exact hs) (by rw [ku]; exact hl) (by omega)
 have ha : accB { L with up := true } c t = true := by
  rw [acc_iff, ku]
  simp only [hr]
  exact ⟨(exact_may ht hper).2 hp, .inr hd, hni, fun h1 => by omega⟩
 have e : shE { L with up := true } c t 3 = 0 := sh_zero ⟨hv2, hc, ht, by omega, by omega⟩ rfl hchk ha hw
 unfold stp
 rw [if_pos e]
 exact lost_new e (by omega) hk
/-- where a card is lost, nothing that is shown but other cards opens the door -/
theorem gone_run (cs : List Crd) {x : Int} : ∀ (p : List Shw) (ls : List Lk), (∀ s ∈ p, s.i = 0 ∧ ((cdD cs s.j).k = 3 ∨ (cdD cs s.j).i = x)) → 0 < ls.length → x ∈ (keepS (lkD ls 0)).l → ∀ b ∈ runO cs ls p, b = false
 | [], _, _, _, _, b, hb => by simp [runO] at hb
 | s :: r, ls, h, hl, hx, b, hb => by
  obtain ⟨h0, h1⟩ := h s List.mem_cons_self
  rw [runO] at hb
  rcases List.mem_cons.1 hb with rfl | hb
  ·rw [oneO, h0]
   rcases h1 with h1 | h1
   ·exact stp_revoke h1
   ·exact stp_gone (by rw [h1]; exact hx)
  ·refine gone_run cs r (oneS cs ls s) (fun z hz => h z (List.mem_cons_of_mem _ hz)) (by rw [oneS, List.length_set]; exact hl) ?_ b hb
   rw [oneS_at (by rw [h0]; exact hl), h0, if_pos rfl]
   exact stp_lost hx
end Go.Proofs.YtclgncaghiinhaaGreatDoor
