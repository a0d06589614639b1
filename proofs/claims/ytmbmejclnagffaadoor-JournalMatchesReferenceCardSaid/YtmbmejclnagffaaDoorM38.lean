/- Journals in plain Lean: what was appended is right. -/
import Derived.Test.YtmbmejclnagffaaDoorM16
import Derived.Test.YtmbmejclnagffaaDoorM37
set_option linter.unusedSimpArgs false
set_option linter.unusedVariables false
set_option maxRecDepth 100000
namespace Go.Proofs.YtmbmejclnagffaaDoor
open Go.RowKit
theorem okL_snoc {party : Int} (m : Msg) : ∀ (l : List Msg) (i : Nat) (L : Int), okL party i L (l ++ [m]) = (okL party i L l && (msgB m && decide (m.p = party) && decide (m.s = ((i + l.length : Nat) : Int) + 1) && decide ((if l = [] then L else lastT l) ≤ m.t)))
  | [], i, L => by simp [okL]
  | x :: r, i, L => by
    rw [List.cons_append, okL, okL, okL_snoc m r (i + 1) x.t]
    have e1 : (i + 1 + r.length : Nat) = i + (x :: r).length := by simp; omega
    have e2 : (if r = [] then x.t else lastT r) = lastT (x :: r) := by
      cases r with
      | nil => rfl
      | cons y s => simp [lastT, List.getLast?_cons_cons]
    rw [e1, e2, if_neg (List.cons_ne_nil x r)]
    simp only [Bool.and_assoc]
theorem sgn_fit (sec once : Int) (l : List Int) : (-9223372036854775808 ≤ sgnE sec once l ∧ sgnE sec once l ≤ 9223372036854775807) ∧ (-9223372036854775808 ≤ sgnS sec once l ∧ sgnS sec once l ≤ 9223372036854775807) := by
  unfold sgnE sgnS
  split
  · have h := @wth_sig sec.toNat once.toNat l
    have h1 := wthB_iff.1 h.1
    have h2 := wthB_iff.1 h.2
    omega
  · omega
theorem apH_fit {l : List Msg} {party sec once : Int} (hp : -9223372036854775808 ≤ party ∧ party ≤ 9223372036854775807) (hn : l.length ≤ 1000000) : HFit (apH l party sec once) :=
  ⟨hp, ⟨by show _ ≤ (l.length : Int); omega, by show (l.length : Int) ≤ _; omega⟩, chI_in l, (sgn_fit _ _ _).1, (sgn_fit _ _ _).2⟩
/-- what is asked where no error comes -/
theorem apE_zero {ms : List Msg} {h : Hd} {party time kind : Int} {a : List Int} {sec once : Int} (hE : apE ms h party time kind a sec once = 0) :
    ((wthB sec 1 = true ∧ wthB once 1 = true) ∧ msgB ⟨party, 1, time, kind, none, 0, a⟩ = true ∧ frmB ms h party = true) ∧ ms.length ≠ 5000 ∧ (ms ≠ [] → lastT ms ≤ time) := by
  unfold apE at hE
  split at hE
  · rename_i h1
    split at hE
    · cases hE
    · rename_i h2
      split at hE
      · cases hE
      · rename_i h3
        exact ⟨⟨by simpa [Bool.and_eq_true] using h1.1, h1.2⟩, h2, fun hne => by
          refine Int.not_lt.1 (fun h4 => h3 ⟨hne, h4⟩)⟩
  · cases hE
theorem frm_ok {l : List Msg} {h : Hd} {party : Int} (e : frmB l h party = true) : l.length ≤ 5000 ∧ okL party 0 0 l = true := by
  simp only [frmB, Bool.and_eq_true, decide_eq_true_eq] at e
  exact e.1
theorem ap_frm {ms : List Msg} {h : Hd} {party time kind : Int} {a : List Int} {sec once : Int} (hE : apE ms h party time kind a sec once = 0) (B : Option Addr) (k : Nat) :
    frmB (ms ++ [newM party ms.length time kind B k a]) (apH (ms ++ [newM party ms.length time kind B k a]) party sec once) party = true := by
  obtain ⟨⟨_, h2, h3⟩, h4, h5⟩ := apE_zero hE
  have h6 := frm_ok h3
  have hm : msgB (newM party ms.length time kind B k a) = true := msgB_seq h2 ⟨by omega, by omega⟩
  have ht : 0 ≤ time := (inJ_iff.1 (msgB_iff.1 h2).2.2.1).1
  have ho : okL party 0 0 (ms ++ [newM party ms.length time kind B k a]) = true := by
    rw [okL_snoc, h6.2, hm]
    have e1 : (newM party ms.length time kind B k a).p = party := rfl
    have e2 : (newM party ms.length time kind B k a).s = ((0 + ms.length : Nat) : Int) + 1 := by show (ms.length : Int) + 1 = _; omega
    have e3 : (if ms = [] then (0 : Int) else lastT ms) ≤ (newM party ms.length time kind B k a).t := by
      show _ ≤ time
      split
      · exact ht
      · rename_i hne; exact h5 hne
    rw [decide_eq_true e1, decide_eq_true e2, decide_eq_true e3]; rfl
  unfold frmB hdB
  rw [if_neg (by simp), ho, decide_eq_true (by simp; omega)]
  simp [apH]
theorem ver_sgn {sec once : Int} (h1 : wthB sec 1 = true) (h2 : wthB once 1 = true) (l : List Int) : verV (pubV sec) (sgnE sec once l) (sgnS sec once l) l = true := by
  obtain ⟨s, rfl⟩ := nat_of (by omega) h1
  obtain ⟨o, rfl⟩ := nat_of (by omega) h2
  have e : (wthB (s : Int) 1 && wthB (o : Int) 1) = true := by rw [h1, h2]; rfl
  rw [pubV, sgnE, sgnS, if_pos h1, if_pos e, if_pos e, verV, okB]
  have h3 := @wth_sig s o l
  simp only [Int.toNat_natCast]
  rw [memZ_pw, h3.1, h3.2, right_law]; rfl
theorem mem_pub {sec : Int} (h1 : wthB sec 1 = true) : memZ (pubV sec) = true := by
  obtain ⟨s, rfl⟩ := nat_of (by omega) h1
  rw [pubV, if_pos h1]
  exact memZ_pw
theorem ap_sgd {ms : List Msg} {h : Hd} {party time kind : Int} {a : List Int} {sec once : Int} (hE : apE ms h party time kind a sec once = 0) (B : Option Addr) (k : Nat) :
    sgdB (ms ++ [newM party ms.length time kind B k a]) (apH (ms ++ [newM party ms.length time kind B k a]) party sec once) party (pubV sec) = true := by
  obtain ⟨⟨⟨h1, h2⟩, _, _⟩, _, _⟩ := apE_zero hE
  unfold sgdB
  rw [ap_frm hE, Bool.true_and]
  have : verV (pubV sec) (apH (ms ++ [newM party ms.length time kind B k a]) party sec once).e (apH (ms ++ [newM party ms.length time kind B k a]) party sec once).s (sayI (apH (ms ++ [newM party ms.length time kind B k a]) party sec once)) = true := ver_sgn h1 h2 _
  rw [this, Bool.or_true]
/- the example -/
def ex1 (B : Option Addr) (k : Nat) : Msg := ⟨2001, 1, 7, 6, B, k, [3, 5, 900]⟩
def exI : List Int := [2001, 1, 7, 6, 3, 5, 900]
def exH : Hd := ⟨2001, 1, chainB [exI], sgnE 5 6 (sayI ⟨2001, 1, chainB [exI], 0, 0⟩), sgnS 5 6 (sayI ⟨2001, 1, chainB [exI], 0, 0⟩)⟩
theorem ex_E0 : apE [] hd0 2001 7 6 [3, 5, 900] 5 6 = 0 := by decide
theorem ex_frm (B : Option Addr) (k : Nat) : frmB [ex1 B k] exH 2001 = true := ap_frm ex_E0 B k
theorem pub5 : pubV 5 = 1024 := by rw [pubV, if_pos (by decide)]; show ((pw 4 5 PP : Nat) : Int) = 1024; rw [pw45]; rfl
theorem mem5 : memZ 1024 = true := mem1024
theorem ex_sgd (B : Option Addr) (k : Nat) : sgdB [ex1 B k] exH 2001 1024 = true := by rw [← pub5]; exact ap_sgd ex_E0 B k
theorem ex_c1 (B : Option Addr) (k : Nat) : chkV [ex1 B k] exH 2001 1024 = true ∧ chkE 2001 1024 = 0 := by
  have e : chkE 2001 1024 = 0 := by rw [chkE, mem5]; rfl
  exact ⟨by rw [chkV, e, ex_sgd]; rfl, e⟩
theorem ex_c2 (B : Option Addr) (k : Nat) : chkV [ex1 B k] exH 2002 1024 = false ∧ chkE 2002 1024 = 0 := by
  have e : chkE 2002 1024 = 0 := by rw [chkE, mem5]; rfl
  have : okL 2002 0 0 [ex1 B k] = false := by simp [okL, ex1]
  exact ⟨by rw [chkV, sgdB, frm_false this]; simp, e⟩
theorem ex_c3 : chkV [] hd0 2002 1024 = true ∧ chkE 2002 1024 = 0 := by
  have e : chkE 2002 1024 = 0 := by rw [chkE, mem5]; rfl
  exact ⟨by rw [chkV, e]; rfl, e⟩
theorem ex_c4 (B : Option Addr) (k : Nat) : chkV [ex1 B k] exH 999 1024 = false ∧ chkE 999 1024 = 1 := by
  have e : chkE 999 1024 = 1 := by rw [chkE]; rfl
  exact ⟨by rw [chkV, e]; rfl, e⟩
theorem ex_E2 (B : Option Addr) (k : Nat) : apE [ex1 B k] exH 2001 6 7 [3, 900] 5 6 = 6 := by
  rw [apE, ex_frm, if_pos ⟨by decide, by decide, rfl⟩]; rfl
theorem ex_E3 (B : Option Addr) (k : Nat) : apE [ex1 B k] exH 2001 8 7 [3] 5 6 = 1 := by
  rw [apE, if_neg]; intro h; have := h.2.1; revert this; decide
theorem ex_a (B : Option Addr) (k : Nat) : argE (ex1 B k) = 0 ∧ argL (ex1 B k) = exI := by
  have : msgB (ex1 B k) = true := by
    show msgB (ex1 none 0) = true; decide
  exact ⟨by rw [argE, this]; rfl, by rw [argL, this]; rfl⟩
theorem ex_fit : HFit exH := apH_fit (l := [ex1 none 0]) ⟨by omega, by omega⟩ (by simp)
end Go.Proofs.YtmbmejclnagffaaDoor
