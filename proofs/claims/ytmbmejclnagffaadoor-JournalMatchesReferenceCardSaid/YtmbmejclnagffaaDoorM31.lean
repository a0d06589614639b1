/- Contracts of package journal: says, newHead. -/
import Derived.Test.YtmbmejclnagffaaDoorM29
import Derived.Test.YtmbmejclnagffaaDoorM30
set_option linter.unusedSimpArgs false
set_option linter.unusedVariables false
set_option maxRecDepth 100000
namespace Go.Proofs.YtmbmejclnagffaaDoor
open Go.RowKit
structure HFit (h : Hd) : Prop where
  p : -9223372036854775808 ≤ h.p ∧ h.p ≤ 9223372036854775807
  n : -9223372036854775808 ≤ h.n ∧ h.n ≤ 9223372036854775807
  c : 0 ≤ h.c ∧ h.c ≤ 18446744073709551615
  e : -9223372036854775808 ≤ h.e ∧ h.e ≤ 9223372036854775807
  s : -9223372036854775808 ≤ h.s ∧ h.s ≤ 9223372036854775807
theorem and_low (n : Int) (h : 0 ≤ n ∧ n ≤ 18446744073709551615) : bits .and .u64 n 4294967295 = n % 4294967296 := by
  have h1 : (BitVec.ofInt 64 4294967295).toNat = 2 ^ 32 - 1 := by decide
  have key : (BitVec.ofInt 64 n &&& BitVec.ofInt 64 4294967295).toNat = (n % ((2 ^ 64 : Nat) : Int)).toNat % 2 ^ 32 := by
    rw [BitVec.toNat_and, BitVec.toNat_ofInt, h1, Nat.and_two_pow_sub_one_eq_mod]
  show IntKind.u64.wrap ((BitVec.ofInt 64 n &&& BitVec.ofInt 64 4294967295).toNat : Nat) = n % 4294967296
  rw [key, IntKind.wrap_u64]
  omega
/-- a new list of four integers -/
def New4 (l : List Int) (w : World) (e : Ending) (w' : World) : Prop := ∃ b, e = .returned (.slice (some ⟨b, 0, none⟩) 4 4) ∧ IntsAt w' (some ⟨b, 0, none⟩) .i64 l ∧ Below w.heap.size w w'
set_option maxHeartbeats 4000000 in
theorem jsays_any (h : Hd) (hf : HFit h) (w : World) : Calls Tryd.prog 43 #[.agg h.cells.toArray] w (New4 (sayI h) w) := by
  have e0 : h.cells.toArray = #[.int .i64 h.p, .int .i64 h.n, .int .u64 h.c, .int .i64 h.e, .int .i64 h.s] := rfl
  rw [e0]
  have fc := hf.c
  have eS : sayI h = [h.p, h.n, h.c / 4294967296, h.c % 4294967296] := rfl
  rw [eS]
  obtain ⟨w0, hw0⟩ : ∃ W, w.alloc (.cells #[.int .i64 h.p, .int .i64 h.n, .int .u64 h.c, .int .i64 h.e, .int .i64 h.s] 33) = W := ⟨_, rfl⟩
  have bb0 : Below w.heap.size w w0 := by rw [← hw0]; exact (Below.refl _ _).alloc (Nat.le_refl _) _
  have k0 : Blk w0 w.heap.size #[.int .i64 h.p, .int .i64 h.n, .int .u64 h.c, .int .i64 h.e, .int .i64 h.s] := by rw [← hw0]; exact blk_new rfl
  generalize h.p = hp at *
  generalize h.n = hn at *
  generalize h.c = hc at *
  generalize h.e = he at *
  generalize h.s = hs at *
  have t1 : hc / 2 ^ 32 = hc / 4294967296 := by rw [show (2 : Int) ^ 32 = 4294967296 from rfl]
  have t2 := and_low hc fc
  have m1 : 0 ≤ hc / 4294967296 ∧ hc / 4294967296 ≤ 4294967295 := by omega
  have m2 : 0 ≤ hc % 4294967296 ∧ hc % 4294967296 ≤ 4294967295 := by omega
  clear e0 eS
  have ⟨H_hw0, H_bb0, H_k0, H_hf⟩ := hid4 hw0 bb0 k0 hf; clear hw0 bb0 k0 hf
  have y0 := (H_k0.out 0 _ rfl).at
  have y1 := (H_k0.out 1 _ rfl).at
  have y2 := (H_k0.out 2 _ rfl).at
  have y3 := (H_k0.out 3 _ rfl).at
  have y4 := (H_k0.out 4 _ rfl).at
  go_enter Tryd.func43, Tryd.ntmps43
  go_upto_region 1 with (fail)
  rw [H_hw0.out]
  go_wp2_with fail
  go_ret
  exact ⟨w0.heap.size, rfl, ints_lit (w := w0) [hp, hn, hc / 4294967296, hc % 4294967296] _ rfl, H_bb0.out.alloc H_bb0.out.size _⟩
theorem msI_fit {m : Msg} (h : msgB m = true) : (msI m).length ≤ 100000 ∧ Fit (msI m) := by
  have hl := msgB_len h
  obtain ⟨h1, h2, h3, h4, _, h6⟩ := msgB_iff.1 h
  have h1 := ptyB_iff.1 h1
  have h3 := inJ_iff.1 h3
  refine ⟨by simp [msI]; omega, fun x hx => ?_⟩
  simp only [msI, List.mem_cons] at hx
  rcases hx with rfl | rfl | rfl | rfl | hx
  · omega
  · omega
  · omega
  · omega
  · have := inJ_iff.1 (h6 x hx); omega
theorem msI_fits {l : List Msg} (h : ∀ m ∈ l, msgB m = true) : Fits (l.map msI) := fun x hx => by
  obtain ⟨m, hm, rfl⟩ := List.mem_map.1 hx
  exact msI_fit (h m hm)
theorem jchain_any (A : Option Addr) (c n : Nat) (l : List Msg) (rs : List LR) (hln : rs.length = n) (hr : rs.map (·.l) = l.map msI) (w : World) (hl : ListsAt w A (rs.map (·.l))) (hn : n ≤ 1000000) (hv : ∀ m ∈ l, msgB m = true) (ht : Tab w) :
    Calls Tryd.prog 27 #[.slice A n c] w fun e w' => e = .returned (.int .u64 (chI l)) ∧ Below w.heap.size w w' := by
  subst hln
  rw [hr] at hl
  have e : rs.length = (l.map msI).length := by rw [← hr, List.length_map]
  rw [e] at hn ⊢
  exact digChain_any A c _ w hl hn (msI_fits hv) ht
theorem take_map_snoc {l : List Msg} {k : Nat} {m : Msg} (h : l[k]? = some m) {rs : List LR} (hr : rs.map (·.l) = (l.take k).map msI) (r : LR) (e : r.l = msI m) : (rs ++ [r]).map (·.l) = (l.take (k + 1)).map msI := by
  rw [List.take_add_one, h, List.map_append, List.map_append, hr]
  simp [e]
theorem newH_cells (l : List Msg) (party : Int) (h : l ≠ []) : (newH l party).cells.toArray = #[.int .i64 party, .int .i64 (l.length : Int), .int .u64 (chI l), .int .i64 0, .int .i64 0] := by rw [newH, if_neg h]; rfl
set_option maxRecDepth 100000 in
set_option maxHeartbeats 8000000 in
theorem jnewHead_any (A : Option Addr) (cp n : Nat) (l : List Msg) (party : Int) (hln : l.length = n) (hn : n ≤ 5000) (hv : ∀ m ∈ l, msgB m = true) (w : World) (hl : Msgs w A l) (ht : Tab w) :
    Calls Tryd.prog 42 #[.slice A n cp, .int .i64 party] w fun e w' => e = .returned (.agg (newH l party).cells.toArray) ∧ Below w.heap.size w w' := by
  obtain ⟨i0, hi, hz0, hz1, hz2⟩ := info_parts infoSl
  obtain ⟨w1, hw1⟩ : ∃ W, w.alloc (.cells #[.int .i64 0, .int .i64 0, .int .u64 0, .int .i64 0, .int .i64 0] 33) = W := ⟨_, rfl⟩
  have bb1 : Below w.heap.size w w1 := by rw [← hw1]; exact (Below.refl _ _).alloc (Nat.le_refl _) _
  have r1 : Blk w1 w.heap.size #[.int .i64 0, .int .i64 0, .int .u64 0, .int .i64 0, .int .i64 0] := by rw [← hw1]; exact blk_new rfl
  have l1 := hl.below bb1
  have t1 := ht.below bb1
  have lr := (r1 0 _ rfl).lt
  by_cases h0 : n = 0
  · subst h0
    have hnil : l = [] := List.eq_nil_of_length_eq_zero hln
    have e0 : (newH l party).cells.toArray = #[.int .i64 0, .int .i64 0, .int .u64 0, .int .i64 0, .int .i64 0] := by rw [newH, if_pos hnil]; rfl
    rw [e0]
    have i1 : (((0 : Nat) : Int) == 0) = true := rfl
    have ⟨H_hi, H_hz0, H_hz1, H_hz2, H_hw1, H_bb1, H_r1, H_l1⟩ := hid8 hi hz0 hz1 hz2 hw1 bb1 r1 l1; clear hi hz0 hz1 hz2 hw1 bb1 r1 l1; have ⟨H_t1, H_hl, H_ht, H_hln, H_hv, H_hnil, H_e0⟩ := hid7 t1 hl ht hln hv hnil e0; clear t1 hl ht hln hv hnil e0
    go_enter Tryd.func42, Tryd.ntmps42
    go_upto_region 2 with (fail)
    rw [H_hw1.out]
    have gw9 : Below w.heap.size w (putL w1 w.heap.size 0 [.int .i64 0, .int .i64 0, .int .u64 0, .int .i64 0, .int .i64 0]) := putL_below (by omega) _ _ _ H_bb1.out
    simp only [putL, Nat.reduceAdd] at gw9
    have H_gw9 := Lib.hid gw9; clear gw9
    have z0 := (H_r1.out 0 _ rfl).at
    have z1 := (H_r1.out 1 _ rfl).at
    have z2 := (H_r1.out 2 _ rfl).at
    have z3 := (H_r1.out 3 _ rfl).at
    have z4 := (H_r1.out 4 _ rfl).at
    have f0 := (H_r1.out 0 _ rfl).free
    have f1 := (H_r1.out 1 _ rfl).free
    have f2 := (H_r1.out 2 _ rfl).free
    have f3 := (H_r1.out 3 _ rfl).free
    have f4 := (H_r1.out 4 _ rfl).free
    go_wp2_with fail
    refine bodyPost_ret (v := .agg #[.int .i64 0, .int .i64 0, .int .u64 0, .int .i64 0, .int .i64 0]) (by simp [results, Tryd.results42, go_sem, *]) rfl ⟨rfl, H_gw9.out⟩
  have hne : l ≠ [] := by intro e; rw [e] at hln; simp at hln; omega
  have i1 : ((n : Int) == 0) = false := by rw [beq_eq_false_iff_ne]; omega
  have e0 := newH_cells l party hne
  rw [hln] at e0
  rw [e0]
  clear e0
  have ⟨H_hi, H_hz0, H_hz1, H_hz2, H_hw1, H_bb1, H_r1, H_l1⟩ := hid8 hi hz0 hz1 hz2 hw1 bb1 r1 l1; clear hi hz0 hz1 hz2 hw1 bb1 r1 l1; have ⟨H_t1, H_hl, H_ht, H_hln, H_hv, H_hne⟩ := hid6 t1 hl ht hln hv hne; clear t1 hl ht hln hv hne
  go_enter Tryd.func42, Tryd.ntmps42
  go_upto_region 1 with (fail)
  rw [H_hw1.out]
  go_upto_region 5 with (fail)
  go_loopw [5, 14] (fun o i wr => ∃ (k : Nat) (B : Option Addr) (d : Nat) (rs : List LR), k ≤ n ∧ i = .int .i64 k ∧ o = .slice B k d ∧ rs.length = k ∧ rs.map (·.l) = (l.take k).map msI ∧ LRow wr w1.heap.size B d rs ∧ Below w1.heap.size w1 wr) (fun _ i _ => n - (intOf i).toNat)
  case atStart => exact ⟨0, none, 0, [], by omega, rfl, rfl, rfl, by simp, LRow.nil _ _, Below.refl _ _⟩
  case round =>
    obtain ⟨k, B, d, rs, hk, rfl, rfl, hrk, hrs, own, bz⟩ := hrel
    have sz := bz.size
    by_cases hlt : k < n
    · have g1 : (k : Int) < (n : Int) := by omega
      have g0 : (0 : Int) ≤ (k : Int) := by omega
      have hk9 : (k : Int) < 100000 := by omega
      obtain ⟨m, hm5⟩ : ∃ m, l[k]? = some m := ⟨_, List.getElem?_eq_getElem (by rw [H_hln.out]; exact hlt)⟩
      have hmem : m ∈ l := List.mem_of_getElem? hm5
      have hmv := H_hv.out m hmem
      have ml := msgB_len hmv
      obtain ⟨b, off, rfl, hbl, ⟨hf, hmc, hmi⟩, c0, c1, c2, c3, c4⟩ := (H_l1.out.below bz).at hm5
      have snoc := take_map_snoc hm5 hrs
      have q := fun W h => jints_any m (by omega) W h
      have hlen : (msI m).length = 4 + m.a.length := by simp [msI]; omega
      have e0 : m.cells.toArray = #[.int .i64 m.p, .int .i64 m.s, .int .i64 m.t, .int .i64 m.k, .slice m.A m.a.length m.c] := rfl
      rw [e0] at q
      clear e0
      generalize msI m = L at *
      generalize m.a.length = a at *
      have ⟨H_hrs, H_own, H_bz, H_hm5, H_hmem, H_hmv, H_hf, H_hmc⟩ := hid8 hrs own bz hm5 hmem hmv hf hmc; clear hrs own bz hm5 hmem hmv hf hmc; have ⟨H_hmi, H_snoc, H_q, H_hlen⟩ := hid4 hmi snoc q hlen; clear hmi snoc q hlen
      go_upto_region 7 with (fail)
      obtain ⟨w2, hw2⟩ : ∃ W, wr.alloc (.cells #[.int .i64 m.p, .int .i64 m.s, .int .i64 m.t, .int .i64 m.k, .slice m.A a m.c] 47) = W := ⟨_, rfl⟩
      rw [hw2]
      have c2' : Below wr.heap.size wr w2 := by rw [← hw2]; exact (Below.refl _ _).alloc (Nat.le_refl _) _
      have y2 : Blk w2 wr.heap.size #[.int .i64 m.p, .int .i64 m.s, .int .i64 m.t, .int .i64 m.k, .slice m.A a m.c] := by rw [← hw2]; exact blk_new rfl
      have own2 := H_own.out.below c2'
      have bz2 := H_bz.out.trans (c2'.mono sz)
      have mi2 := H_hmi.out.below c2'
      have s2 := c2'.size
      clear c0 c1 c2 c3 c4
      have ⟨H_hw2, H_c2', H_y2, H_own2, H_bz2, H_mi2⟩ := hid6 hw2 c2' y2 own2 bz2 mi2; clear hw2 c2' y2 own2 bz2 mi2
      have y0 := (H_y2.out 0 _ rfl).at
      have y1 := (H_y2.out 1 _ rfl).at
      have y2 := (H_y2.out 2 _ rfl).at
      have y3 := (H_y2.out 3 _ rfl).at
      have y4 := (H_y2.out 4 _ rfl).at
      have ly := (H_y2.out 0 _ rfl).lt
      go_wp2_with fail
      (with_reducible refine (H_q.out _ H_mi2.out).mono ?_)
      rintro e w3 ⟨A3, c3, rfl, o3, b3⟩
      have own3 := H_own2.out.below b3
      have bz3 := H_bz2.out.trans (b3.mono H_bz2.out.size)
      have i3 := o3.ints
      have cap3 := o3.cap
      have ne3 : blockOf A3 ≠ blockOf B := by
        obtain ⟨g, eg, _⟩ := i3.lt (by rw [H_hlen.out]; omega)
        have h1 := o3.lt g eg
        intro e
        rw [eg] at e
        have h2 := (H_own.out.1.lt g e.symm).2
        omega
      have s3 := b3.size
      have ⟨H_o3, H_b3, H_own3, H_bz3, H_i3, H_cap3, H_ne3⟩ := hid7 o3 b3 own3 bz3 i3 cap3 ne3; clear o3 b3 own3 bz3 i3 cap3 ne3
      go_wp2_with (at_builtin; refine wp_app_gen (At := LRAt) _ rfl (.tmp 18) (.tmp 21) _ rfl i0 _ 24 Tryd.underlying65 H_hi.out H_hz0.out H_hz1.out H_hz2.out rfl (by decide) LR.cells_len LR.cells_one (fun _ _ h => h) k hrk rfl (OwnRows.alloc H_own3.out.1 _) (some ⟨w3.heap.size, 0, none⟩) 1 1 [⟨A3, c3, L⟩] rfl rfl (rows_new1 (At := LRAt) _ ⟨A3, c3, L⟩ _ _ _ rfl rfl (by show _ = LR.cells _; rw [LR.cells, H_hlen.out])) (by unfold maxLen; omega) (by omega) (by simp; omega) ?_)
      intro B4 d4 w4 own4 g4 hB4
      have row4 := H_own3.out.grow (r := ⟨A3, c3, L⟩) (w2 := w3.alloc (.cells #[.slice A3 (4 + a) c3] 45)) (by show 0 < L.length; rw [H_hlen.out]; omega) H_cap3.out H_i3.out H_ne3.out (by rw [H_hlen.out]) own4 g4 (by rw [World.size_alloc]; exact hB4)
      have bz4 : Below w1.heap.size w1 w4 := (H_bz3.out.alloc H_bz3.out.size _).grown g4 (by simp; have := H_bz3.out.size; omega) (fun g hg => (H_own3.out.1.lt g hg).1)
      have sn4 := H_snoc.out ⟨A3, c3, L⟩ rfl
      have len4 : (rs ++ [(⟨A3, c3, L⟩ : LR)]).length = k + 1 := by rw [List.length_append, hrk]; rfl
      have ⟨H_own4, H_g4, H_hB4, H_row4, H_bz4, H_sn4, H_len4⟩ := hid7 own4 g4 hB4 row4 bz4 sn4 len4; clear own4 g4 hB4 row4 bz4 sn4 len4
      go_wp2_with fail
      go_roundw
      case rel => exact ⟨k + 1, B4, d4, _, by omega, by go_num, by rfl, H_len4.out, H_sn4.out, H_row4.out, H_bz4.out⟩
      case measure => simp [intOf]; omega
    · have g1 : ¬ (k : Int) < (n : Int) := by omega
      have hkn : k = n := by omega
      subst hkn
      rw [List.take_of_length_le (by rw [H_hln.out]; exact Nat.le_refl _)] at hrs
      have bbz := H_bb1.out.trans (bz.mono H_bb1.out.size)
      have q := jchain_any B d k l rs hrk hrs wr own.lists (by omega) H_hv.out (H_t1.out.below bz)
      have rz := H_r1.out.below bz
      generalize hC : chI l = C at q
      have ⟨H_hrs, H_own, H_bz, H_bbz, H_q, H_rz, H_hC⟩ := hid7 hrs own bz bbz q rz hC; clear hrs own bz bbz q rz hC
      go_wp2_with fail
      (with_reducible refine H_q.out.mono ?_)
      rintro e w5 ⟨rfl, b5⟩
      have bb5 := H_bbz.out.trans (b5.mono H_bbz.out.size)
      have r5 := H_rz.out.below b5
      have s5 := b5.size
      have ⟨H_b5, H_bb5, H_r5⟩ := hid3 b5 bb5 r5; clear b5 bb5 r5
      have z0 := (H_r5.out 0 _ rfl).at
      have z1 := (H_r5.out 1 _ rfl).at
      have z2 := (H_r5.out 2 _ rfl).at
      have z3 := (H_r5.out 3 _ rfl).at
      have z4 := (H_r5.out 4 _ rfl).at
      have f0 := (H_r5.out 0 _ rfl).free
      have f1 := (H_r5.out 1 _ rfl).free
      have f2 := (H_r5.out 2 _ rfl).free
      have f3 := (H_r5.out 3 _ rfl).free
      have f4 := (H_r5.out 4 _ rfl).free
      have l5 := (H_r5.out 0 _ rfl).lt
      have gw9 : Below w.heap.size w (putL w5 w.heap.size 0 [.int .i64 party, .int .i64 (k : Int), .int .u64 C, .int .i64 0, .int .i64 0]) := putL_below (by omega) _ _ _ H_bb5.out
      simp only [putL, Nat.reduceAdd] at gw9
      have H_gw9 := Lib.hid gw9; clear gw9
      go_wp2_with fail
      refine bodyPost_ret (v := .agg #[.int .i64 party, .int .i64 (k : Int), .int .u64 C, .int .i64 0, .int .i64 0]) (by simp [results, Tryd.results42, go_sem, *]) rfl ⟨by rw [H_hC.out], H_gw9.out⟩
end Go.Proofs.YtmbmejclnagffaaDoor
