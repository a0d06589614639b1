/- The contract of card.Newest. -/
import Derived.Test.YtoehobaigfmnpaaDoorCaD
import Derived.Test.YtoehobaigfmnpaaDoorCaQ
namespace Go.Proofs.YtoehobaigfmnpaaDoor
set_option linter.unusedSimpArgs false
set_option linter.unusedVariables false
set_option maxRecDepth 100000
open Go.RowKit Go.Maps

theorem eq_room (a b c d : Int) (ha : -9223372036854775808 ≤ a ∧ a ≤ 9223372036854775807) (hb : -9223372036854775808 ≤ b ∧ b ≤ 9223372036854775807) (hc : -9223372036854775808 ≤ c ∧ c ≤ 9223372036854775807) (hd : -9223372036854775808 ≤ d ∧ d ≤ 9223372036854775807) {R : Bool} (hR : decide (a = c ∧ b = d) = R) (w : World) :
    Sem.run Tryd.prog (Op.equalIn 10000 77 (.agg #[.int .i64 a, .int .i64 b]) (.agg #[.int .i64 c, .int .i64 d])) w = .ok R w := by
  have c1 : Tryd.prog.cellsOf 3 = 1 := by kernel_rfl
  have c2 : Tryd.prog.cellsOf 77 = 2 := by kernel_rfl
  have k1 : ∀ d n, (Lit.int .i64 n).wf = true → Tryd.prog.keyLits (d + 1) 3 [.int .i64 n] = some [.int .i64 n] := fun d n h => by simp [Program.keyLits, Tryd.underlying3, h]
  have k2 : ∀ a b, (Lit.int .i64 a).wf = true → (Lit.int .i64 b).wf = true → Tryd.prog.keyLits 10 77 [.int .i64 a, .int .i64 b] = some [.int .i64 a, .int .i64 b] := fun a b h1 h2 => by
    unfold Program.keyLits
    rw [Tryd.underlying77]
    simp [c1, c2, k1 8 _ h1, k1 8 _ h2]
  obtain ⟨r, hr, hi⟩ := run_equalIn_deep (P := Tryd.prog) 9990 10 77 (by kernel_rfl) w 10 10 (.agg #[.int .i64 a, .int .i64 b]) (.agg #[.int .i64 c, .int .i64 d]) _ _ (by kernel_rfl) (by kernel_rfl) (k2 a b (WalkArith.wf_i64 ha) (WalkArith.wf_i64 hb)) (k2 c d (WalkArith.wf_i64 hc) (WalkArith.wf_i64 hd))
  have e : r = R := by
    rw [← hR, Bool.eq_iff_iff, hi]
    simp
  rw [← e]; exact hr
theorem infoCard : (Tryd.prog.info? 31).map (fun i => (i.zero, i.size, i.bytes)) = some (some (.agg Crd.zero.cells.toArray), 9, 72) := by kernel_rfl
/-- a row of the call's own of cards -/
def OwnC (w : World) (base : Nat) (A : Option Addr) (c : Nat) (l : List Crd) : Prop := OwnRows 31 9 Crd.cells w base A c l
theorem OwnC.cards {w : World} {base : Nat} {A : Option Addr} {c : Nat} {l : List Crd} (h : OwnC w base A c l) (hf : ∀ c ∈ l, CFit c) : Cards w A l := OwnRows.rows h Crd.cells_len fun z hz => ⟨rfl, hf z hz⟩
theorem ownC_lit {w : World} {base : Nat} (l : List Crd) (hb : base ≤ w.heap.size) (hl : l.length ≤ 1000) {vs : Array Value} (hv : vs.toList = l.flatMap Crd.cells) {n : Nat} (hn : w.heap.size = n) : OwnC (w.alloc (.cells vs 31)) base (some ⟨n, 0, none⟩) l.length l := by
  subst hn
  have hs : vs.size = l.length * 9 := by rw [← Array.length_toList, hv, flat_len Crd.cells_len]
  have := World.ownsRow_lit (base := base) (e := 31) (size := 9) w vs l.length hb (by unfold maxLen; omega) hs
  rw [hv] at this; exact this
/-- cards in new memory, and an error number -/
def CardsErr (L : List Crd) (E : Int) (w : World) (e : Ending) (w' : World) : Prop := ∃ A c, e = .returned (.tuple #[.slice A L.length c, .int .i64 E]) ∧ OwnC w' w.heap.size A c L ∧ Below w.heap.size w w'
theorem newL_fit {door : Int} {l : List Crd} (h : ∀ c ∈ l, CFit c) (k : Nat) : ∀ c ∈ newL door (l.take k), CFit c := fun c hc => h c (List.mem_of_mem_take (newL_mem hc).1)
theorem take_next {l : List Crd} {k : Nat} {c : Crd} (h : l[k]? = some c) : l.take (k + 1) = l.take k ++ [c] := by
  rw [List.take_add_one, h]; rfl
set_option maxHeartbeats 4000000 in
theorem cnewest_no (A : Option Addr) (cp n : Nat) (l : List Crd) (hln : l.length = n) (hn : n ≤ 9223372036854775807) (door : Int) (w : World) (hl : Cards w A l) (h : newE door l = 1) :
    Calls Tryd.prog 12 #[.slice A n cp, .int .i64 door] w (CardsErr [] 1 w) := by
  have q1 := ccontains_any A cp n l hln hn w hl
  have q2 := fun W => cwithin_any door 1 400 W
  have hx := @wB_iff door 1 400
  have h' : ¬ (n ≤ 500 ∧ allV l = true ∧ 1 ≤ door ∧ door ≤ 400) := fun h2 => by
    have := newE_iff.2 (by rw [hln]; exact h2)
    omega
  generalize allV l = V at *
  generalize wB door 1 400 = D at *
  by_cases h5 : 500 < n
  · have d5 : decide ((500 : Int) < (n : Int)) = true := decide_eq_true (by omega)
    have d6 : (500 : Int) < (n : Int) := by omega
    have H_q1 := Lib.hid q1; clear q1; have H_q2 := Lib.hid q2; clear q2; have H_hx := Lib.hid hx; clear hx; have H_h' := Lib.hid h'; clear h'; have H_h5 := Lib.hid h5; clear h5; have H_hl := Lib.hid hl; clear hl; have H_hln := Lib.hid hln; clear hln
    go_enter Tryd.func12, Tryd.ntmps12
    go_wp2_with fail
    go_ret2
    exact ⟨none, 0, rfl, OwnRows.nil _ _ _ _ _, Below.refl _ _⟩
  have d5 : decide ((500 : Int) < (n : Int)) = false := decide_eq_false (by omega)
  have d6 : ¬ (500 : Int) < (n : Int) := by omega
  cases V with
  | false =>
    have H_q1 := Lib.hid q1; clear q1; have H_q2 := Lib.hid q2; clear q2; have H_hx := Lib.hid hx; clear hx; have H_h' := Lib.hid h'; clear h'; have H_h5 := Lib.hid h5; clear h5; have H_hl := Lib.hid hl; clear hl; have H_hln := Lib.hid hln; clear hln
    go_enter Tryd.func12, Tryd.ntmps12
    go_wp2_with fail
    refine H_q1.out.mono ?_
    rintro e w2 ⟨rfl, b2⟩
    have H_b2 := Lib.hid b2; clear b2
    go_wp2_with fail
    go_ret2
    exact ⟨none, 0, rfl, OwnRows.nil _ _ _ _ _, H_b2.out⟩
  | true =>
    have hD : D = false := by
      rw [Bool.eq_false_iff]; intro h2
      exact h' ⟨by omega, rfl, hx.1 h2⟩
    subst hD
    have H_q1 := Lib.hid q1; clear q1; have H_q2 := Lib.hid q2; clear q2; have H_hx := Lib.hid hx; clear hx; have H_h' := Lib.hid h'; clear h'; have H_h5 := Lib.hid h5; clear h5; have H_hl := Lib.hid hl; clear hl; have H_hln := Lib.hid hln; clear hln
    go_enter Tryd.func12, Tryd.ntmps12
    go_wp2_with fail
    refine H_q1.out.mono ?_
    rintro e w2 ⟨rfl, b2⟩
    have H_b2 := Lib.hid b2; clear b2
    go_wp2_with fail
    refine (H_q2.out _).mono ?_
    rintro e w_ ⟨rfl, rfl⟩
    go_wp2_with fail
    go_ret2
    exact ⟨none, 0, rfl, OwnRows.nil _ _ _ _ _, H_b2.out⟩
set_option maxHeartbeats 8000000 in
theorem cnewest_ok (A : Option Addr) (cp n : Nat) (l : List Crd) (hln : l.length = n) (door : Int) (w : World) (hl : Cards w A l) (h : newE door l = 0) :
    Calls Tryd.prog 12 #[.slice A n cp, .int .i64 door] w (CardsErr (newL door l) 0 w) := by
  obtain ⟨h5, hV, hd0, hd1⟩ := newE_iff.1 h
  rw [hln] at h5
  have q1 := ccontains_any A cp n l hln (by omega) w hl
  have q2 := fun W => cwithin_any door 1 400 W
  rw [hV] at q1
  rw [wB_iff.2 ⟨hd0, hd1⟩] at q2
  have d5 : decide ((500 : Int) < (n : Int)) = false := decide_eq_false (by omega)
  have d6 : ¬ (500 : Int) < (n : Int) := by omega
  obtain ⟨i0, hi, hz0, hz1, hz2⟩ := info_parts infoCard
  have hlf := hl.fit
  have H_q1 := Lib.hid q1; clear q1; have H_q2 := Lib.hid q2; clear q2; have H_h := Lib.hid h; clear h; have H_hV := Lib.hid hV; clear hV; have H_hl := Lib.hid hl; clear hl; have H_hln := Lib.hid hln; clear hln; have H_hlf := Lib.hid hlf; clear hlf
  go_enter Tryd.func12, Tryd.ntmps12
  go_wp2_with fail
  refine H_q1.out.mono ?_
  rintro e w2 ⟨rfl, b2⟩
  have H_b2 := Lib.hid b2; clear b2
  go_wp2_with fail
  refine (H_q2.out _).mono ?_
  rintro e w_ ⟨rfl, rfl⟩
  go_wp2_with fail
  obtain ⟨w3, hw3⟩ : ∃ W, w2.alloc (.cells #[.int .i64 1, .int .i64 door] 77) = W := ⟨_, rfl⟩
  rw [hw3]
  have b3 : Below w.heap.size w w3 := by rw [← hw3]; exact H_b2.out.alloc H_b2.out.size _
  have g3 : Blk w3 w2.heap.size #[.int .i64 1, .int .i64 door] := by rw [← hw3]; exact blk_new rfl
  have l3 := H_hl.out.below b3
  have s3 : w2.heap.size < w3.heap.size := (g3 0 _ rfl).lt
  have H_hw3 := Lib.hid hw3; clear hw3; have H_b3 := Lib.hid b3; clear b3; have H_g3 := Lib.hid g3; clear g3; have H_l3 := Lib.hid l3; clear l3
  go_loopw [7, 27] (fun v i wr => ∃ (k : Nat) (A2 : Option Addr) (c2 : Nat), k ≤ n ∧ i = .int .i64 k ∧ v = .slice A2 (newL door (l.take k)).length c2 ∧ OwnC wr w3.heap.size A2 c2 (newL door (l.take k)) ∧ Below w3.heap.size w3 wr) (fun _ i _ => n - (intOf i).toNat)
  case atStart => exact ⟨0, none, 0, by omega, rfl, rfl, OwnRows.nil _ _ _ _ _, Below.refl _ _⟩
  case round =>
    obtain ⟨k, A2, c2, hk, rfl, rfl, ho, hbw⟩ := hrel
    have hsz := hbw.size
    by_cases hlt : k < n
    · obtain ⟨c, hc⟩ : ∃ c, l[k]? = some c := ⟨_, List.getElem?_eq_getElem (by rw [H_hln.out]; exact hlt)⟩
      obtain ⟨b, off, rfl, hbl, hf, e0, e1, e2, e3, e4, e5, e6, e7, e8⟩ := (H_l3.out.below hbw).at hc
      have hpf := newL_fit (door := door) H_hlf.out k
      have hsn : newL door (l.take (k + 1)) = nst door (newL door (l.take k)) c := by rw [take_next hc, newL_snoc]
      have hpl : (newL door (l.take k)).length ≤ 500 := Nat.le_trans (newL_len _ _) (by simp; omega)
      have g1 : (k : Int) < (n : Int) := by omega
      have g0 : (0 : Int) ≤ (k : Int) := by omega
      generalize hp : newL door (l.take k) = p at *
      generalize hm : p.length = m at *
      have H_ho := Lib.hid ho; clear ho; have H_hbw := Lib.hid hbw; clear hbw; have H_hpf := Lib.hid hpf; clear hpf; have H_hsn := Lib.hid hsn; clear hsn; have H_hc := Lib.hid hc; clear hc; have H_hp := Lib.hid hp; clear hp; have H_hm := Lib.hid hm; clear hm; have H_hf := Lib.hid hf; clear hf
      go_upto_region 8 with (fail)
      obtain ⟨w4, hw4⟩ : ∃ W, wr.alloc (.cells #[.int .i64 c.i, .int .i64 c.k, .int .i64 c.d, .int .i64 c.n, .int .i64 c.f, .int .i64 c.u, .int .i64 c.l, .int .i64 c.e, .int .i64 c.s] 31) = W := ⟨_, rfl⟩
      rw [hw4]
      clear e0 e1 e2 e3 e4 e5 e6 e7 e8
      have b4 : Below wr.heap.size wr w4 := by rw [← hw4]; exact (Below.refl _ _).alloc (Nat.le_refl _) _
      have c4 : Blk w4 wr.heap.size #[.int .i64 c.i, .int .i64 c.k, .int .i64 c.d, .int .i64 c.n, .int .i64 c.f, .int .i64 c.u, .int .i64 c.l, .int .i64 c.e, .int .i64 c.s] := by rw [← hw4]; exact blk_new rfl
      have bw4 := H_hbw.out.trans (b4.mono hsz)
      have r4 := H_g3.out.below bw4
      have o4 : OwnC w4 w3.heap.size A2 c2 p := OwnRows.below H_ho.out b4
      have p4 := o4.cards H_hpf.out
      have s4 : wr.heap.size < w4.heap.size := (c4 0 _ rfl).lt
      have t0 := (r4 0 _ rfl).at; have t1 := (r4 1 _ rfl).at
      have hfk := H_hf.out.k; have hfd := H_hf.out.d
      have qr := fun (R : Bool) (h : decide (c.k = 1 ∧ c.d = door) = R) => eq_room c.k c.d 1 door hfk hfd (by omega) (by omega) h
      have H_hw4 := Lib.hid hw4; clear hw4; have H_b4 := Lib.hid b4; clear b4; have H_c4 := Lib.hid c4; clear c4; have H_bw4 := Lib.hid bw4; clear bw4; have H_r4 := Lib.hid r4; clear r4; have H_o4 := Lib.hid o4; clear o4; have H_p4 := Lib.hid p4; clear p4; have H_qr := Lib.hid qr; clear qr; have H_hfk := Lib.hid hfk; clear hfk; have H_hfd := Lib.hid hfd; clear hfd
      have x0 := (H_c4.out 0 _ rfl).at
      have x1 := (H_c4.out 1 _ rfl).at
      have x2 := (H_c4.out 2 _ rfl).at
      have x3 := (H_c4.out 3 _ rfl).at
      have x4 := (H_c4.out 4 _ rfl).at
      have x5 := (H_c4.out 5 _ rfl).at
      have x6 := (H_c4.out 6 _ rfl).at
      have x7 := (H_c4.out 7 _ rfl).at
      have x8 := (H_c4.out 8 _ rfl).at
      cases p with
      | nil =>
        have dm : ((m : Int) == 0) = true := by rw [← H_hm.out]; rfl
        cases ho2 : ofB door c with
        | false =>
          have hroom := H_qr.out false (by simpa [ofB] using ho2)
          have hR : newL door (l.take (k + 1)) = [] := by rw [H_hsn.out, nst, if_pos ho2]
          have H_ho2 := Lib.hid ho2; clear ho2; have H_hR := Lib.hid hR; clear hR
          go_quiet (fail)
          go_wp2_with fail
          go_roundw
          case rel => exact ⟨k + 1, A2, c2, by omega, by go_num, by rw [H_hR.out, ← H_hm.out], by rw [H_hR.out]; exact H_o4.out, H_bw4.out.trans ((by (repeat (first | with_reducible exact Below.refl _ _ | with_reducible exact Nat.le_refl _ | with_reducible assumption | with_reducible refine Below.drew ?_ | with_reducible refine below_drewN ?_ _ | with_reducible refine Below.alloc ?_ ?_ _ | with_reducible refine Below.setCell ?_ ?_ _ | with_reducible exact And.right (by assumption) | with_reducible refine Below.trans ?_ (Below.mono (by assumption) ?_) | with_reducible exact Below.size (And.right (by assumption)) | (focus omega) | (focus (simp; done)) | (focus (simp; omega)) | (focus (simp at *; omega)))) : Below w4.heap.size w4 _).mono H_bw4.out.size)⟩
          case measure => simp [intOf]; omega
        | true =>
          have hroom := H_qr.out true (by simpa [ofB] using ho2)
          have hR : newL door (l.take (k + 1)) = [c] := by rw [H_hsn.out, nst, if_neg (by simp [ho2])]
          have H_ho2 := Lib.hid ho2; clear ho2; have H_hR := Lib.hid hR; clear hR
          go_quiet (fail)
          go_wp2_with fail
          go_roundw
          case rel => exact ⟨k + 1, _, 1, by omega, by go_num, by rw [H_hR.out]; rfl, by rw [H_hR.out]; exact ownC_lit [c] (by have := H_bw4.out.size; simp; omega) (by simp) rfl rfl, H_bw4.out.trans ((by (repeat (first | with_reducible exact Below.refl _ _ | with_reducible exact Nat.le_refl _ | with_reducible assumption | with_reducible refine Below.drew ?_ | with_reducible refine below_drewN ?_ _ | with_reducible refine Below.alloc ?_ ?_ _ | with_reducible refine Below.setCell ?_ ?_ _ | with_reducible exact And.right (by assumption) | with_reducible refine Below.trans ?_ (Below.mono (by assumption) ?_) | with_reducible exact Below.size (And.right (by assumption)) | (focus omega) | (focus (simp; done)) | (focus (simp; omega)) | (focus (simp at *; omega)))) : Below w4.heap.size w4 _).mono H_bw4.out.size)⟩
          case measure => simp [intOf]; omega
      | cons o r =>
        have dm : ((m : Int) == 0) = false := by rw [← H_hm.out, beq_eq_false_iff_ne, List.length_cons]; omega
        have gm : (0 : Int) < (m : Int) := by have := H_hm.out; rw [List.length_cons] at this; omega
        obtain ⟨g, goff, rfl, hgl, hfo, _, _, _, y3, _⟩ := H_p4.out.at (i := 0) (c := o) rfl
        rw [Nat.zero_mul, Nat.add_zero] at y3
        have H_hfo := Lib.hid hfo; clear hfo
        by_cases hlo : o.n < c.n
        · have dl : decide (o.n < c.n) = true := decide_eq_true hlo
          cases ho2 : ofB door c with
          | false =>
            have hroom := H_qr.out false (by simpa [ofB] using ho2)
            have hR : newL door (l.take (k + 1)) = o :: r := by rw [H_hsn.out, nst, if_pos ho2]
            have H_ho2 := Lib.hid ho2; clear ho2; have H_hR := Lib.hid hR; clear hR
            go_quiet (fail)
            go_wp2_with fail
            go_roundw
            case rel => exact ⟨k + 1, _, c2, by omega, by go_num, by rw [H_hR.out, ← H_hm.out], by rw [H_hR.out]; exact H_o4.out, H_bw4.out.trans ((by (repeat (first | with_reducible exact Below.refl _ _ | with_reducible exact Nat.le_refl _ | with_reducible assumption | with_reducible refine Below.drew ?_ | with_reducible refine below_drewN ?_ _ | with_reducible refine Below.alloc ?_ ?_ _ | with_reducible refine Below.setCell ?_ ?_ _ | with_reducible exact And.right (by assumption) | with_reducible refine Below.trans ?_ (Below.mono (by assumption) ?_) | with_reducible exact Below.size (And.right (by assumption)) | (focus omega) | (focus (simp; done)) | (focus (simp; omega)) | (focus (simp at *; omega)))) : Below w4.heap.size w4 _).mono H_bw4.out.size)⟩
            case measure => simp [intOf]; omega
          | true =>
            have hroom := H_qr.out true (by simpa [ofB] using ho2)
            have hR : newL door (l.take (k + 1)) = [c] := by rw [H_hsn.out, nst, if_neg (by simp [ho2])]; rw [if_pos hlo]
            have H_ho2 := Lib.hid ho2; clear ho2; have H_hR := Lib.hid hR; clear hR
            go_quiet (fail)
            go_wp2_with fail
            go_roundw
            case rel => exact ⟨k + 1, _, 1, by omega, by go_num, by rw [H_hR.out]; rfl, by rw [H_hR.out]; exact ownC_lit [c] (by have := H_bw4.out.size; simp; omega) (by simp) rfl rfl, H_bw4.out.trans ((by (repeat (first | with_reducible exact Below.refl _ _ | with_reducible exact Nat.le_refl _ | with_reducible assumption | with_reducible refine Below.drew ?_ | with_reducible refine below_drewN ?_ _ | with_reducible refine Below.alloc ?_ ?_ _ | with_reducible refine Below.setCell ?_ ?_ _ | with_reducible exact And.right (by assumption) | with_reducible refine Below.trans ?_ (Below.mono (by assumption) ?_) | with_reducible exact Below.size (And.right (by assumption)) | (focus omega) | (focus (simp; done)) | (focus (simp; omega)) | (focus (simp at *; omega)))) : Below w4.heap.size w4 _).mono H_bw4.out.size)⟩
            case measure => simp [intOf]; omega
        · have dl : decide (o.n < c.n) = false := decide_eq_false hlo
          cases ho2 : ofB door c with
          | false =>
            have hroom := H_qr.out false (by simpa [ofB] using ho2)
            have hR : newL door (l.take (k + 1)) = o :: r := by rw [H_hsn.out, nst, if_pos ho2]
            have H_ho2 := Lib.hid ho2; clear ho2; have H_hR := Lib.hid hR; clear hR
            go_quiet (fail)
            go_wp2_with fail
            go_roundw
            case rel => exact ⟨k + 1, _, c2, by omega, by go_num, by rw [H_hR.out, ← H_hm.out], by rw [H_hR.out]; exact H_o4.out, H_bw4.out.trans ((by (repeat (first | with_reducible exact Below.refl _ _ | with_reducible exact Nat.le_refl _ | with_reducible assumption | with_reducible refine Below.drew ?_ | with_reducible refine below_drewN ?_ _ | with_reducible refine Below.alloc ?_ ?_ _ | with_reducible refine Below.setCell ?_ ?_ _ | with_reducible exact And.right (by assumption) | with_reducible refine Below.trans ?_ (Below.mono (by assumption) ?_) | with_reducible exact Below.size (And.right (by assumption)) | (focus omega) | (focus (simp; done)) | (focus (simp; omega)) | (focus (simp at *; omega)))) : Below w4.heap.size w4 _).mono H_bw4.out.size)⟩
            case measure => simp [intOf]; omega
          | true =>
            have hroom := H_qr.out true (by simpa [ofB] using ho2)
            by_cases heq : c.n = o.n
            · have de : (c.n == o.n) = true := by rw [heq]; simp
              have hR : newL door (l.take (k + 1)) = (o :: r) ++ [c] := by rw [H_hsn.out, nst, if_neg (by simp [ho2])]; rw [if_neg hlo, if_pos heq]
              have H_ho2 := Lib.hid ho2; clear ho2; have H_hR := Lib.hid hR; clear hR; have H_heq := Lib.hid heq; clear heq
              go_quiet (fail)
              go_wp2_with fail
              go_quiet (fail)
              go_upto_region 13 with (fail)
              generalize hw5 : World.drewN (World.drewN w4 _) _ = w5
              have b5 : Below w4.heap.size w4 w5 := by rw [← hw5]; (repeat (first | with_reducible exact Below.refl _ _ | with_reducible exact Nat.le_refl _ | with_reducible assumption | with_reducible refine Below.drew ?_ | with_reducible refine below_drewN ?_ _ | with_reducible refine Below.alloc ?_ ?_ _ | with_reducible refine Below.setCell ?_ ?_ _ | with_reducible exact And.right (by assumption) | with_reducible refine Below.trans ?_ (Below.mono (by assumption) ?_) | with_reducible exact Below.size (And.right (by assumption)) | (focus omega) | (focus (simp; done)) | (focus (simp; omega)) | (focus (simp at *; omega))))
              have o5 : OwnC w5 w3.heap.size (some ⟨g, goff, none⟩) c2 (o :: r) := by rw [← hw5]; exact H_o4.out
              have c5 := H_c4.out.below b5
              have bw5 := H_bw4.out.trans (b5.mono H_bw4.out.size)
              clear x0 x1 x2 x3 x4 x5 x6 x7 x8
              have H_hw5 := Lib.hid hw5; clear hw5; have H_b5 := Lib.hid b5; clear b5; have H_o5 := Lib.hid o5; clear o5; have H_c5 := Lib.hid c5; clear c5; have H_bw5 := Lib.hid bw5; clear bw5
              have x0 := (H_c5.out 0 _ rfl).at
              have x1 := (H_c5.out 1 _ rfl).at
              have x2 := (H_c5.out 2 _ rfl).at
              have x3 := (H_c5.out 3 _ rfl).at
              have x4 := (H_c5.out 4 _ rfl).at
              have x5 := (H_c5.out 5 _ rfl).at
              have x6 := (H_c5.out 6 _ rfl).at
              have x7 := (H_c5.out 7 _ rfl).at
              have x8 := (H_c5.out 8 _ rfl).at
              go_wp2_with (at_builtin; refine wp_app_gen (At := CdAt) _ rfl (.tmp 63) (.tmp 65) _ rfl i0 _ 72 Tryd.underlying22 hi hz0 hz1 hz2 rfl (by decide) Crd.cells_len Crd.cells_one (fun _ _ h => h.1) m H_hm.out rfl (OwnRows.alloc H_o5.out _) (some ⟨w5.heap.size, 0, none⟩) 1 1 [c] rfl rfl (rows_new1 w5 c _ _ _ rfl rfl ⟨rfl, H_hf.out⟩) ?_ ?_ ?_ ?_)
              all_goals try (unfold maxLen; omega)
              all_goals try omega
              all_goals try (have := H_bw5.out.size; simp; omega)
              intro A6 c6 w6 o6 g6 _
              have b6 : Below w3.heap.size w3 w6 := (OwnRows.alloc H_o5.out _).grow (H_bw5.out.alloc H_bw5.out.size _) g6
              clear x0 x1 x2 x3 x4 x5 x6 x7 x8
              have H_o6 := Lib.hid o6; clear o6; have H_g6 := Lib.hid g6; clear g6; have H_b6 := Lib.hid b6; clear b6
              go_wp2_with fail
              go_roundw
              case rel => exact ⟨k + 1, A6, c6, by omega, by go_num, by rw [H_hR.out, List.length_append, H_hm.out]; rfl, by rw [H_hR.out]; exact H_o6.out, H_b6.out⟩
              case measure => simp [intOf]; omega
            · have de : (c.n == o.n) = false := by rw [beq_eq_false_iff_ne]; exact heq
              have hR : newL door (l.take (k + 1)) = o :: r := by rw [H_hsn.out, nst, if_neg (by simp [ho2])]; rw [if_neg hlo, if_neg heq]
              have H_heq := Lib.hid heq; clear heq
              have H_ho2 := Lib.hid ho2; clear ho2; have H_hR := Lib.hid hR; clear hR
              go_quiet (fail)
              go_wp2_with fail
              go_quiet (fail)
              go_wp2_with fail
              go_roundw
              case rel => exact ⟨k + 1, _, c2, by omega, by go_num, by rw [H_hR.out, ← H_hm.out], by rw [H_hR.out]; exact H_o4.out, H_bw4.out.trans ((by (repeat (first | with_reducible exact Below.refl _ _ | with_reducible exact Nat.le_refl _ | with_reducible assumption | with_reducible refine Below.drew ?_ | with_reducible refine below_drewN ?_ _ | with_reducible refine Below.alloc ?_ ?_ _ | with_reducible refine Below.setCell ?_ ?_ _ | with_reducible exact And.right (by assumption) | with_reducible refine Below.trans ?_ (Below.mono (by assumption) ?_) | with_reducible exact Below.size (And.right (by assumption)) | (focus omega) | (focus (simp; done)) | (focus (simp; omega)) | (focus (simp at *; omega)))) : Below w4.heap.size w4 _).mono H_bw4.out.size)⟩
              case measure => simp [intOf]; omega
    · have g1 : ¬ (k : Int) < (n : Int) := by omega
      have hall : l.take k = l := List.take_of_length_le (by rw [H_hln.out]; omega)
      rw [hall] at ho
      simp only [hall]
      have H_ho := Lib.hid ho; clear ho; have H_hbw := Lib.hid hbw; clear hbw; have H_hall := Lib.hid hall; clear hall
      go_wp2_with fail
      go_ret2
      exact ⟨A2, c2, rfl, OwnRows.base_le H_ho.out H_b3.out.size, H_b3.out.trans (H_hbw.out.mono H_b3.out.size)⟩
end Go.Proofs.YtoehobaigfmnpaaDoor
