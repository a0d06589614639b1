/- The walk of CodecChanged. -/
import Derived.Test.YtopdgjpoknndmaaCodQ
namespace Go.Proofs.Ytopdgjpoknndmaa
set_option linter.unusedSimpArgs false
set_option linter.unusedVariables false
set_option maxRecDepth 100000
open Go.RowKit

theorem OwnInts.block {w : World} {base : Nat} {E : TypeId} {k : IntKind} {A : Option Addr} {c : Nat} {l : List Int} (h : OwnInts w base E k A c l) (hl : 0 < l.length) : ∃ g, A = some ⟨g, 0, none⟩ ∧ base ≤ g ∧ g < w.heap.size ∧ ∀ j, w.frozen? ⟨g, j, none⟩ = false := by
  rcases h.2 with ⟨hv, hn⟩ | ⟨g, cap, cur, hv, hb, hh, _⟩
  · omega
  · injection hv with hA _ _
    exact ⟨g, hA, hb, lt_of_block hh, fun j => frozen_of_row w g j cur E hh⟩
theorem IntsAt.set_at {w : World} {b off : Nat} {k : IntKind} {l : List Int} (h : IntsAt w (some ⟨b, off, none⟩) k l) {p : Nat} (hp : p < l.length) (y : Int) : IntsAt (w.setCell ⟨b, off + p, none⟩ (.int k y)) (some ⟨b, off, none⟩) k (l.set p y) := fun i hi => by
  rw [List.length_set] at hi
  obtain ⟨b', off', e, hlt, hc⟩ := h i hi
  injection e with e
  injection e with e1 e2
  subst e1 e2
  refine ⟨b, off, rfl, by simpa using hlt, ?_⟩
  by_cases hip : i = p
  · subst hip
    rw [World.cell?_setCell_same _ _ _ hc]
    simp [List.getD_eq_getElem?_getD, hi]
  · rw [World.cell?_setCell_other _ _ _ _ (by simp only [ne_eq, Addr.mk.injEq, and_true, true_and]; exact fun h => hip (by omega)), hc]
    simp [List.getD_eq_getElem?_getD, List.getElem?_set, Ne.symm hip]
theorem allB_append (a b : List (List Int)) : allB (a ++ b) = allB a ++ allB b := by simp [allB]

theorem idx_facts {f r n : Nat} (h : f + 3 + r < n) (hn : n ≤ 10000) : (0 : Int) ≤ (f : Int) + 3 + (r : Int) ∧ (f : Int) + 3 + (r : Int) < (n : Int) ∧ wrap64 ((f : Int) + 3 + (r : Int)) = (f : Int) + 3 + (r : Int) ∧ ((f : Int) + 3 + (r : Int)).toNat = f + 3 + r := by
  refine ⟨by omega, by omega, ?_, by omega⟩
  exact IntWalk.wrap64_in _ (by omega)
theorem idx_facts0 {r n : Nat} (h : 3 + r < n) (hn : n ≤ 10000) : (0 : Int) ≤ 3 + (r : Int) ∧ 3 + (r : Int) < (n : Int) ∧ wrap64 (3 + (r : Int)) = 3 + (r : Int) ∧ (3 + (r : Int)).toNat = 3 + r := by
  refine ⟨by omega, by omega, ?_, by omega⟩
  exact IntWalk.wrap64_in _ (by omega)
theorem rem_facts (at_ : Int) (n : Nat) (hn : 12 ≤ n) (f : Nat) (hf : f + 12 ≤ n) : ∃ r : Nat, at_ % ((n : Int) - f - 3) = r ∧ f + 3 + r < n := by
  have h1 := Int.emod_nonneg at_ (b := (n : Int) - f - 3) (by omega)
  have h2 := Int.emod_lt_of_pos at_ (b := (n : Int) - f - 3) (by omega)
  exact ⟨(at_ % ((n : Int) - f - 3)).toNat, (Int.toNat_of_nonneg h1).symm, by omega⟩

theorem xor8 {x b : Int} (hx : 0 ≤ x ∧ x ≤ 255) (hb : 0 ≤ b ∧ b ≤ 255) (h0 : b ≠ 0) : 0 ≤ bits .xor .u8 x b ∧ bits .xor .u8 x b ≤ 255 ∧ bits .xor .u8 x b ≠ x := by
  obtain ⟨x, rfl⟩ := Int.eq_ofNat_of_zero_le hx.1
  obtain ⟨b, rfl⟩ := Int.eq_ofNat_of_zero_le hb.1
  rw [u8_xor_nat x b (by omega) (by omega)]
  have h1 : x ^^^ b < 256 := Nat.xor_lt_two_pow (n := 8) (by omega) (by omega)
  refine ⟨by omega, by omega, fun h => h0 ?_⟩
  have h2 : x ^^^ b = x ^^^ 0 := by rw [Nat.xor_zero]; omega
  rw [xor_right_inj h2]; rfl

set_option maxHeartbeats 4000000 in
theorem codecChanged_walk (A : Option Addr) (c : Nat) (ll : List (List Int)) (at_ by_ : Int) (w : World) (hl : ListsAt w A ll) (hlc : ll.length ≤ c) (hcm : c ≤ maxLen) (hlw : ∀ l ∈ ll, l.length ≤ maxLen ∧ ∀ n ∈ l, (Lit.int .i64 n).wf = true)
    (hat_ : (Lit.int .u16 at_).wf = true) (hby_ : (Lit.int .u8 by_).wf = true) :
    Calls Try.prog 7 #[.slice A ll.length c, .int .u16 at_, .int .u8 by_] w fun e w' => e = .returned (.bool true) ∧ Below w.heap.size w w' := by
  obtain ⟨i0, hi, hz0, hz1, hz2⟩ := info_parts infoU8
  have fl : ∀ l ∈ ll, Fit l := fun l hl x hx => wf_i64 ((hlw l hl).2 x hx)
  have hcu := wf_u16 hat_
  have hcb := wf_u8 hby_
  have hm1 : ll.length ≤ maxLen := by omega
  have hm3 : ∀ k, (ll.getD k []).length ≤ maxLen := getD_short fun l hl => (hlw l hl).1
  unfold maxLen at hm1 hm3
  have hh := head_any w
  have H_hl := Lib.hid hl; clear hl; have H_hlc := Lib.hid hlc; clear hlc; have H_hcm := Lib.hid hcm; clear hcm; have H_hlw := Lib.hid hlw; clear hlw; have H_fl := Lib.hid fl; clear fl; have H_hh := Lib.hid hh; clear hh; have H_hm3 := Lib.hid hm3; clear hm3; have H_hat_ := Lib.hid hat_; clear hat_; have H_hby_ := Lib.hid hby_; clear hby_
  go_enter Try.func7, Try.ntmps7
  go_wp2_with fail
  refine H_hh.out.mono ?_
  rintro e w1 ⟨rfl, b1⟩
  have s1 := b1.size
  have l1 := H_hl.out.below b1
  have q1 := small_any A c ll w1 l1 H_hm3.out (by omega)
  have H_b1 := Lib.hid b1; clear b1; have H_l1 := Lib.hid l1; clear l1; have H_q1 := Lib.hid q1; clear q1
  go_wp2_with fail
  refine H_q1.out.mono ?_
  rintro e w2 ⟨rfl, rfl⟩
  by_cases hsm : smallB ll = true
  rotate_left
  · rw [Bool.not_eq_true] at hsm
    go_wp2_with fail
    go_ret
    exact ⟨rfl, H_b1.out⟩
  by_cases hg2 : ll.length = 0
  · have hg2' : ((ll.length : Int) == 0) = true := by simp [hg2]
    go_wp2_with fail
    go_ret
    exact ⟨rfl, H_b1.out⟩
  have hg2' : ((ll.length : Int) == 0) = false := by rw [beq_eq_false_iff_ne]; omega
  by_cases hg3 : by_ = 0
  · have hg3' : (by_ == 0) = true := by simp [hg3]
    go_wp2_with fail
    go_ret
    exact ⟨rfl, H_b1.out⟩
  have hg3' : (by_ == 0) = false := by rw [beq_eq_false_iff_ne]; exact hg3
  have hlen := smallB_len hsm
  clear hm1
  have hin := smallB_in hsm
  have hin2 : ∀ l ∈ ll, l.length ≤ 30 ∧ Fit l := fun l hl => ⟨hin l hl, H_fl.out l hl⟩
  have q2 := frames_any A c ll w1 H_l1.out hsm H_fl.out
  have hal := allB_len ll hin2
  have hab := allB_bytes ll hin2
  have hne : ll ≠ [] := fun h => hg2 (by simp [h])
  have hch := fun p y => frames_changed ll p y hne hin2
  have hen := endsB_get ll
  have hel := endsB_len ll
  have hlast : (allB (ll.take (ll.length - 1))).length + 12 ≤ (allB ll).length := by
    have e : ll = ll.take (ll.length - 1) ++ ll.drop (ll.length - 1) := (List.take_append_drop _ _).symm
    have hd : ∃ x, ll.drop (ll.length - 1) = [x] := List.length_eq_one_iff.1 (by simp; omega)
    obtain ⟨x, hx⟩ := hd
    have hxm : x ∈ ll := List.mem_of_mem_drop (i := ll.length - 1) (by rw [hx]; simp)
    have := frame_short (hin2 x hxm).1 (hin2 x hxm).2
    conv => rhs; rw [e, allB_append, List.length_append, hx]
    simp only [allB, List.flatMap_cons, List.flatMap_nil, List.append_nil] at *
    omega
  generalize hFR : (allB (ll.take (ll.length - 1))).length = FR at *
  unfold FrsPost at q2
  generalize hX : allB ll = X at *
  generalize hE : endsB ll = E at *
  have hnn : (ll.length != ll.length) = false := by simp
  have H_q2 := Lib.hid q2; clear q2; have H_hab := Lib.hid hab; clear hab; have H_hX := Lib.hid hX; clear hX; have H_hin := Lib.hid hin; clear hin; have H_hin2 := Lib.hid hin2; clear hin2; have H_hch := Lib.hid hch; clear hch; have H_hen := Lib.hid hen; clear hen; have H_hel := Lib.hid hel; clear hel; have H_hE := Lib.hid hE; clear hE; have H_hFR := Lib.hid hFR; clear hFR; have H_hne := Lib.hid hne; clear hne
  go_wp2_with fail
  refine H_q2.out.mono ?_
  rintro e w2 ⟨X2, x2, F, f, rfl, o2, e2, b2⟩
  have s2 := b2.size
  have l2 := H_l1.out.below b2
  have bb2 := H_b1.out.trans (b2.mono s1)
  have oi2 := o2.ints
  have ei2 := e2.ints
  have H_o2 := Lib.hid o2; clear o2; have H_e2 := Lib.hid e2; clear e2; have H_b2 := Lib.hid b2; clear b2; have H_l2 := Lib.hid l2; clear l2; have H_bb2 := Lib.hid bb2; clear bb2; have H_oi2 := Lib.hid oi2; clear oi2; have H_ei2 := Lib.hid ei2; clear ei2
  by_cases h1 : ll.length = 1
  · have hFR0 : FR = 0 := by rw [← H_hFR.out, h1]; simp [allB]
    have i1 : ¬ (1 : Int) < (ll.length : Int) := by omega
    have hFRb : ((FR : Int) == 0) = true := by rw [hFR0]; rfl
    have H_h1 := Lib.hid h1; clear h1; have H_hFR0 := Lib.hid hFR0; clear hFR0
    go_wp2_with (at_builtin; refine wp_app_at _ rfl (.tmp 54) (.tmp 55) _ rfl w2.heap.size 5 i0 _ 1 Try.underlying23 hi hz0 hz1 hz2 rfl .u8 (some ⟨w2.heap.size, 0, none⟩) 0 0 [] rfl rfl (own_lit (w := w2) [] (Nat.le_refl _) (by simp) _ rfl) X2 x2 X.length X rfl rfl (H_oi2.out.alloc _) (by omega) (by omega) (by simp) ?_)
    intro X3 x3 w3 ho3 hgg3 hB3
    change OwnInts w3 _ _ _ _ _ X at ho3
    have b3 : Below w2.heap.size w2 w3 := (own_lit (w := w2) (k := .u8) [] (Nat.le_refl _) (by simp) _ rfl).grow ((Below.refl _ _).alloc (Nat.le_refl _) _) hgg3
    have s3 := b3.size
    have l2' := H_l2.out
    obtain ⟨g, rfl, hg1, hgl, hfz⟩ := ho3.block (by omega)
    obtain ⟨r, hR, hr2⟩ := rem_facts at_ X.length (by omega) 0 (by omega)
    rw [Int.natCast_zero, Int.sub_zero] at hR
    obtain ⟨i5, i6, i7, i8⟩ := idx_facts0 (r := r) (n := X.length) (by omega) (by omega)
    have g1 := H_hFR0.out
    obtain ⟨g', off', eg, _, hc⟩ := ho3.ints (3 + r) (by omega)
    injection eg with eg
    injection eg with eg1 eg2
    subst eg1 eg2
    have hst := ho3.ints.set_at (p := 3 + r) (by omega) (bits .xor .u8 (X.getD (3 + r) 0) by_)
    rw [Nat.zero_add] at hc hst
    clear i7
    have hf3 := hfz (3 + r)
    clear hfz
    have hxb : 0 ≤ X.getD (3 + r) 0 ∧ X.getD (3 + r) 0 ≤ 255 := bytes_getD H_hab.out _
    have hch2 := H_hch.out (3 + r) (bits .xor .u8 (X.getD (3 + r) 0) by_) (by omega) (by omega)
    clear g1
    have hxx := xor8 hxb hcb hg3
    have hset : ∀ v ∈ X.set (3 + r) (bits .xor .u8 (X.getD (3 + r) 0) by_), 0 ≤ v ∧ v ≤ 255 := fun v hv => by
      rcases List.mem_or_eq_of_mem_set hv with h | h
      · exact H_hab.out v h
      · rw [h]; exact ⟨hxx.1, hxx.2.1⟩
    have hch3 := hch2 ⟨hxx.1, hxx.2.1⟩ hxx.2.2
    generalize hx : X.getD (3 + r) 0 = x at *
    have hxb1 := hxb.1; have hxb2 := hxb.2
    have hkl : (ll.take (ll.length - 1)).length = ll.length - 1 := by simp
    have hb4 : Below w2.heap.size w2 (w3.setCell ⟨g, 3 + r, none⟩ (.int .u8 (bits .xor .u8 x by_))) := b3.setCell hg1 _
    have hcp := ho3.cap
    have q3 := codFrames_at (some ⟨g, 0, none⟩) x3 X.length (X.set (3 + r) (bits .xor .u8 x by_)) (by simp) _ hst (by omega) (by omega) (bytes_getD hset)
    unfold FrPost at q3
    rw [hch3] at q3
    dsimp only at q3
    rw [hkl] at q3
    have l4 := (l2'.take (ll.length - 1)).below hb4
    have s4 := hb4.size
    have k1 : (0 : Int) ≤ (ll.length : Int) - 1 := by omega
    have k2 : (ll.length : Int) - 1 ≤ (c : Int) := by have := H_hlc.out; omega
    have k3 : ((ll.length : Int) - 1).toNat = ll.length - 1 := by omega
    have H_ho3 := Lib.hid ho3; clear ho3; have H_hgg3 := Lib.hid hgg3; clear hgg3; have H_hB3 := Lib.hid hB3; clear hB3; have H_b3 := Lib.hid b3; clear b3; have H_l2' := Lib.hid l2'; clear l2'; have H_hx := Lib.hid hx; clear hx; have H_hxb := Lib.hid hxb; clear hxb; have H_hst := Lib.hid hst; clear hst; have H_hch2 := Lib.hid hch2; clear hch2; have H_hch3 := Lib.hid hch3; clear hch3; have H_hset := Lib.hid hset; clear hset; have H_hxx := Lib.hid hxx; clear hxx; have H_hkl := Lib.hid hkl; clear hkl; have H_hb4 := Lib.hid hb4; clear hb4; have H_l4 := Lib.hid l4; clear l4; have H_q3 := Lib.hid q3; clear q3
    go_wp2_with fail
    refine H_q3.out.mono ?_
    rintro e w5 ⟨M, m, rfl, o5, b5⟩
    have s5 := b5.size
    have bb5 := H_bb2.out.trans ((H_hb4.out.trans (b5.mono (by omega))).mono (by omega))
    have l5 := H_l4.out.below b5
    have hgd := getD_short (ll := ll.take (ll.length - 1)) (n := 1000000) fun l hl => by have := H_hin.out l (List.mem_of_mem_take hl); omega
    have q4 := sameLists_any M A m c (ll.take (ll.length - 1)) (ll.take (ll.length - 1)) w5 o5.lists l5 (by rw [H_hkl.out]; omega) (by rw [H_hkl.out]; omega) hgd hgd
    rw [sameL_refl, H_hkl.out] at q4
    have H_o5 := Lib.hid o5; clear o5; have H_b5 := Lib.hid b5; clear b5; have H_l5 := Lib.hid l5; clear l5; have H_bb5 := Lib.hid bb5; clear bb5; have H_q4 := Lib.hid q4; clear q4; have H_hgd := Lib.hid hgd; clear hgd
    go_wp2_with fail
    refine H_q4.out.mono ?_
    rintro e w6 ⟨rfl, q, e4⟩
    have b6 : Below w5.heap.size w5 w6 := by rw [e4]; exact below_drewN (Below.refl _ _) _
    clear e4
    have bb6 := H_bb5.out.trans (b6.mono (by omega))
    have H_b6 := Lib.hid b6; clear b6; have H_bb6 := Lib.hid bb6; clear bb6
    go_wp2_with fail
    go_ret
    exact ⟨rfl, H_bb6.out⟩
  · have i1 : (1 : Int) < (ll.length : Int) := by omega
    obtain ⟨fb, fo, hF, hFs, hFc⟩ := H_ei2.out (ll.length - 2) (by rw [H_hel.out]; omega)
    rw [H_hen.out (ll.length - 2) (by omega), show ll.length - 2 + 1 = ll.length - 1 from by omega, H_hFR.out] at hFc
    have f1 : (0 : Int) ≤ (ll.length : Int) - 2 := by omega
    have f2 : (ll.length : Int) - 2 < (ll.length : Int) := by omega
    have f3 : ((ll.length : Int) - 2).toNat = ll.length - 2 := by omega
    subst hF
    go_wp2_with (at_builtin; refine wp_app_at _ rfl (.tmp 54) (.tmp 55) _ rfl w2.heap.size 5 i0 _ 1 Try.underlying23 hi hz0 hz1 hz2 rfl .u8 (some ⟨w2.heap.size, 0, none⟩) 0 0 [] rfl rfl (own_lit (w := w2) [] (Nat.le_refl _) (by simp) _ rfl) X2 x2 X.length X rfl rfl (H_oi2.out.alloc _) (by omega) (by omega) (by simp) ?_)
    intro X3 x3 w3 ho3 hgg3 hB3
    change OwnInts w3 _ _ _ _ _ X at ho3
    have b3 : Below w2.heap.size w2 w3 := (own_lit (w := w2) (k := .u8) [] (Nat.le_refl _) (by simp) _ rfl).grow ((Below.refl _ _).alloc (Nat.le_refl _) _) hgg3
    have s3 := b3.size
    have l2' := H_l2.out
    obtain ⟨g, rfl, hg1, hgl, hfz⟩ := ho3.block (by omega)
    obtain ⟨r, hR, hr2⟩ := rem_facts at_ X.length (by omega) FR (by omega)
    obtain ⟨i5, i6, i7, i8⟩ := idx_facts (r := r) (n := X.length) (f := FR) (by omega) (by omega)
    obtain ⟨g', off', eg, _, hc⟩ := ho3.ints (FR + 3 + r) (by omega)
    injection eg with eg
    injection eg with eg1 eg2
    subst eg1 eg2
    have hst := ho3.ints.set_at (p := FR + 3 + r) (by omega) (bits .xor .u8 (X.getD (FR + 3 + r) 0) by_)
    rw [Nat.zero_add] at hc hst
    clear i7
    have hf3 := hfz (FR + 3 + r)
    clear hfz
    have hxb : 0 ≤ X.getD (FR + 3 + r) 0 ∧ X.getD (FR + 3 + r) 0 ≤ 255 := bytes_getD H_hab.out _
    have hch2 := H_hch.out (FR + 3 + r) (bits .xor .u8 (X.getD (FR + 3 + r) 0) by_) (by omega) (by omega)
    have hxx := xor8 hxb hcb hg3
    have hset : ∀ v ∈ X.set (FR + 3 + r) (bits .xor .u8 (X.getD (FR + 3 + r) 0) by_), 0 ≤ v ∧ v ≤ 255 := fun v hv => by
      rcases List.mem_or_eq_of_mem_set hv with h | h
      · exact H_hab.out v h
      · rw [h]; exact ⟨hxx.1, hxx.2.1⟩
    have hch3 := hch2 ⟨hxx.1, hxx.2.1⟩ hxx.2.2
    generalize hx : X.getD (FR + 3 + r) 0 = x at *
    have hxb1 := hxb.1; have hxb2 := hxb.2
    have hkl : (ll.take (ll.length - 1)).length = ll.length - 1 := by simp
    have hb4 : Below w2.heap.size w2 (w3.setCell ⟨g, FR + 3 + r, none⟩ (.int .u8 (bits .xor .u8 x by_))) := b3.setCell hg1 _
    have hcp := ho3.cap
    have q3 := codFrames_at (some ⟨g, 0, none⟩) x3 X.length (X.set (FR + 3 + r) (bits .xor .u8 x by_)) (by simp) _ hst (by omega) (by omega) (bytes_getD hset)
    unfold FrPost at q3
    rw [hch3] at q3
    dsimp only at q3
    rw [hkl] at q3
    have l4 := (l2'.take (ll.length - 1)).below hb4
    have s4 := hb4.size
    have k1 : (0 : Int) ≤ (ll.length : Int) - 1 := by omega
    have k2 : (ll.length : Int) - 1 ≤ (c : Int) := by have := H_hlc.out; omega
    have k3 : ((ll.length : Int) - 1).toNat = ll.length - 1 := by omega
    have H_ho3 := Lib.hid ho3; clear ho3; have H_hgg3 := Lib.hid hgg3; clear hgg3; have H_hB3 := Lib.hid hB3; clear hB3; have H_b3 := Lib.hid b3; clear b3; have H_l2' := Lib.hid l2'; clear l2'; have H_hx := Lib.hid hx; clear hx; have H_hxb := Lib.hid hxb; clear hxb; have H_hst := Lib.hid hst; clear hst; have H_hch2 := Lib.hid hch2; clear hch2; have H_hch3 := Lib.hid hch3; clear hch3; have H_hset := Lib.hid hset; clear hset; have H_hxx := Lib.hid hxx; clear hxx; have H_hkl := Lib.hid hkl; clear hkl; have H_hb4 := Lib.hid hb4; clear hb4; have H_l4 := Lib.hid l4; clear l4; have H_q3 := Lib.hid q3; clear q3
    go_wp2_with fail
    refine H_q3.out.mono ?_
    rintro e w5 ⟨M, m, rfl, o5, b5⟩
    have s5 := b5.size
    have bb5 := H_bb2.out.trans ((H_hb4.out.trans (b5.mono (by omega))).mono (by omega))
    have l5 := H_l4.out.below b5
    have hgd := getD_short (ll := ll.take (ll.length - 1)) (n := 1000000) fun l hl => by have := H_hin.out l (List.mem_of_mem_take hl); omega
    have q4 := sameLists_any M A m c (ll.take (ll.length - 1)) (ll.take (ll.length - 1)) w5 o5.lists l5 (by rw [H_hkl.out]; omega) (by rw [H_hkl.out]; omega) hgd hgd
    rw [sameL_refl, H_hkl.out] at q4
    have H_o5 := Lib.hid o5; clear o5; have H_b5 := Lib.hid b5; clear b5; have H_l5 := Lib.hid l5; clear l5; have H_bb5 := Lib.hid bb5; clear bb5; have H_q4 := Lib.hid q4; clear q4; have H_hgd := Lib.hid hgd; clear hgd
    go_wp2_with fail
    refine H_q4.out.mono ?_
    rintro e w6 ⟨rfl, q, e4⟩
    have b6 : Below w5.heap.size w5 w6 := by rw [e4]; exact below_drewN (Below.refl _ _) _
    clear e4
    have bb6 := H_bb5.out.trans (b6.mono (by omega))
    have H_b6 := Lib.hid b6; clear b6; have H_bb6 := Lib.hid bb6; clear bb6
    go_wp2_with fail
    go_ret
    exact ⟨rfl, H_bb6.out⟩
end Go.Proofs.Ytopdgjpoknndmaa
