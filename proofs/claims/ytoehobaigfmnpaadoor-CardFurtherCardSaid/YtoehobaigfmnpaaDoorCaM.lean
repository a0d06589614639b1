/- The newest cards of two lists together; append for cards; Newest, whatever it is called with. -/
import Derived.Test.YtoehobaigfmnpaaDoorCaL1
namespace Go.Proofs.YtoehobaigfmnpaaDoor
set_option linter.unusedSimpArgs false
set_option linter.unusedVariables false
set_option maxRecDepth 100000
open Go.RowKit Go.Maps

def wantL (p q : List Crd) : List Crd := match p, q with
  | o :: r, o' :: r' => if o'.n < o.n then o :: r else if o.n < o'.n then o' :: r' else (o :: r) ++ (o' :: r')
  | p, q => p ++ q
theorem filt_high {door a b : Int} {l : List Crd} (h : ∀ c ∈ l, ofB door c = true → c.n ≤ b) (hab : b < a) : l.filter (mtB door a) = [] := filt_none fun c hc ho => by have := h c hc ho; omega
theorem newIs_app {door : Int} {l m p q : List Crd} (h : NewIs door l p) (k : NewIs door m q) : NewIs door (l ++ m) (wantL p q) := by
  have mem : ∀ {P : Crd → Prop}, (∀ c ∈ l, P c) → (∀ c ∈ m, P c) → ∀ c ∈ l ++ m, P c := fun h1 h2 c hc => by
    rcases List.mem_append.1 hc with h | h
    · exact h1 c h
    · exact h2 c h
  rcases h with ⟨h1, h2⟩ | ⟨a, h1, h2, h3⟩ <;> rcases k with ⟨k1, k2⟩ | ⟨b, k1, k2, k3⟩
  · subst h1 k1; exact .inl ⟨rfl, mem h2 k2⟩
  · subst h1
    have e : wantL [] q = q := by cases q <;> rfl
    rw [e]
    refine .inr ⟨b, ?_, k2, mem (fun c hc ho => by rw [h2 c hc] at ho; cases ho) k3⟩
    rw [List.filter_append, filt_none (fun c hc ho => by rw [h2 c hc] at ho; cases ho), ← k1]; rfl
  · subst k1
    have e : wantL p [] = p := by cases p <;> simp [wantL]
    rw [e]
    refine .inr ⟨a, ?_, h2, mem h3 (fun c hc ho => by rw [k2 c hc] at ho; cases ho)⟩
    rw [List.filter_append, filt_none (l := m) (fun c hc ho => by rw [k2 c hc] at ho; cases ho), ← h1]; simp
  · cases p with
    | nil => exact absurd rfl h2
    | cons o r =>
      cases q with
      | nil => exact absurd rfl k2
      | cons o' r' =>
        have e1 := head_filter h1.symm
        have e2 := head_filter k1.symm
        unfold wantL
        simp only
        by_cases g1 : o'.n < o.n
        · rw [if_pos g1]
          refine .inr ⟨a, ?_, by simp, mem h3 (fun c hc ho => by have := k3 c hc ho; omega)⟩
          rw [List.filter_append, ← h1, filt_high k3 (by omega)]; simp
        · rw [if_neg g1]
          by_cases g2 : o.n < o'.n
          · rw [if_pos g2]
            refine .inr ⟨b, ?_, by simp, mem (fun c hc ho => by have := h3 c hc ho; omega) k3⟩
            rw [List.filter_append, ← k1, filt_high h3 (by omega)]; rfl
          · rw [if_neg g2]
            have e3 : a = b := by omega
            refine .inr ⟨a, ?_, by simp, mem h3 (fun c hc ho => by have := k3 c hc ho; omega)⟩
            rw [List.filter_append, ← h1, e3, ← k1]
theorem newL_app (door : Int) (l m : List Crd) : newL door (l ++ m) = wantL (newL door l) (newL door m) := newIs_unique (newL_is door (l ++ m)) (newIs_app (newL_is door l) (newL_is door m))
theorem allV_app (l m : List Crd) : allV (l ++ m) = (allV l && allV m) := by simp [allV]
theorem newE_app {door : Int} {l m : List Crd} (hl : l.length ≤ 60) (hm : m.length ≤ 60) : newE door (l ++ m) = 0 ↔ newE door l = 0 ∧ newE door m = 0 := by
  rw [newE_iff, newE_iff, newE_iff, allV_app, Bool.and_eq_true, List.length_append]
  constructor
  · rintro ⟨_, ⟨h1, h2⟩, h3, h4⟩; exact ⟨⟨by omega, h1, h3, h4⟩, by omega, h2, h3, h4⟩
  · rintro ⟨⟨_, h1, h3, h4⟩, _, h2, _, _⟩; exact ⟨by omega, ⟨h1, h2⟩, h3, h4⟩

/-- Newest, whatever it is called with -/
theorem cnewest_any (A : Option Addr) (cp n : Nat) (l : List Crd) (hln : l.length = n) (hn : n ≤ 9223372036854775807) (door : Int) (w : World) (hl : Cards w A l) :
    Calls Tryd.prog 12 #[.slice A n cp, .int .i64 door] w (CardsErr (newR door l) (newE door l) w) := by
  rcases newE_01 door l with h | h
  · rw [newR, if_pos h, h]; exact cnewest_ok A cp n l hln door w hl h
  · rw [newR, if_neg (by omega), h]; exact cnewest_no A cp n l hln hn door w hl h
theorem newR_fit {door : Int} {l : List Crd} (h : ∀ c ∈ l, CFit c) : ∀ c ∈ newR door l, CFit c := fun c hc => by
  unfold newR at hc
  split at hc
  · exact h c (newL_mem hc).1
  · simp at hc
theorem newR_len (door : Int) (l : List Crd) : (newR door l).length ≤ l.length := by
  unfold newR; split
  · exact newL_len door l
  · simp
/-- append for cards, at the operation -/
theorem wp_app_c {ops : Array Oper} {rest : List Oper} {o : Oper} {a : Act} {Q : Exit → Act → World → Prop} (w : World) (hgd : o.guard = none) (s x : Operand)
    (ho : o.op = .call { callee := .builtin .append, args := #[s, x], argTypes := #[22, 22] }) (base : Nat) (A : Option Addr) (c n : Nat) (p : List Crd) (hp : p.length = n) (hs : a.eval s = .slice A n c) (hown : OwnC w base A c p)
    (B : Option Addr) (cc m : Nat) (q : List Crd) (hq : q.length = m) (hx : a.eval x = .slice B m cc) (hr : Cards w B q) (k : Nat) (hk : n + m = k) (h63 : k ≤ 100000) (hbase : base ≤ w.heap.size)
    (h : ∀ A' c' w', OwnC w' base A' c' (p ++ q) → w.grownBy w' (blockOf A) → wpList Tryd.prog ops Q rest (a.put o.dst (.slice A' k c')) w') : wpList Tryd.prog ops Q (o :: rest) a w := by
  obtain ⟨i0, hi, hz0, hz1, hz2⟩ := info_parts infoCard
  refine wp_app_gen (At := CdAt) w hgd s x _ ho i0 _ 72 Tryd.underlying22 hi hz0 hz1 hz2 rfl (by decide) Crd.cells_len Crd.cells_one (fun _ _ h => h.1) n hp hs hown B cc m q hq hx hr (by unfold maxLen; omega) (by omega) hbase fun A' c' w' h1 h2 _ => ?_
  rw [hk]; exact h A' c' w' h1 h2
theorem step_app_c {ops : Array Oper} {o : Oper} {a : Act} {K : Act → World → Prop} {Q : Exit → Act → World → Prop} {X : Prop} (w : World) (hgd : o.guard = none) (s x : Operand)
    (ho : o.op = .call { callee := .builtin .append, args := #[s, x], argTypes := #[22, 22] }) (base : Nat) (A : Option Addr) (c n : Nat) (p : List Crd) (hp : p.length = n) (hs : a.eval s = .slice A n c) (hown : OwnC w base A c p)
    (B : Option Addr) (cc m : Nat) (q : List Crd) (hq : q.length = m) (hx : a.eval x = .slice B m cc) (hr : Cards w B q) (k : Nat) (hk : n + m = k) (h63 : k ≤ 100000) (hbase : base ≤ w.heap.size)
    (h : ∀ A' c' w', OwnC w' base A' c' (p ++ q) → w.grownBy w' (blockOf A) → K (a.put o.dst (.slice A' k c')) w') : if Region.wanted o (yielded ops a.tmps) = true then Oper.wp Tryd.prog o a w K Q else X := by
  obtain ⟨i0, hi, hz0, hz1, hz2⟩ := info_parts infoCard
  refine step_app_gen (At := CdAt) w hgd s x _ ho i0 _ 72 Tryd.underlying22 hi hz0 hz1 hz2 rfl (by decide) Crd.cells_len Crd.cells_one (fun _ _ h => h.1) n hp hs hown B cc m q hq hx hr (by unfold maxLen; omega) (by omega) hbase fun A' c' w' h1 h2 _ => ?_
  rw [hk]; exact h A' c' w' h1 h2
theorem ownC_nil {w : World} {base : Nat} (hb : base ≤ w.heap.size) {n : Nat} (hn : w.heap.size = n) : OwnC (w.alloc (.cells #[] 31)) base (some ⟨n, 0, none⟩) 0 [] := ownC_lit (vs := #[]) [] hb (by simp) rfl hn
end Go.Proofs.YtoehobaigfmnpaaDoor
