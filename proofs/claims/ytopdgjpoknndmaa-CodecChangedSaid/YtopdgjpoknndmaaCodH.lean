/- Contracts of the reference of codec: SameBytes, SameInts, Get. -/
import Derived.Test.YtopdgjpoknndmaaCodG
import Derived.Laws.BytesArg
import Derived.Lib.Strings
namespace Go.Proofs.Ytopdgjpoknndmaa
set_option linter.unusedSimpArgs false
set_option linter.unusedVariables false
set_option maxRecDepth 100000
open Go.RowKit

/-- two lists of integers are equal -/
def sameB (l m : List Int) : Bool := l == m
theorem sameB_self (l : List Int) : sameB l l = true := by simp [sameB]
theorem sameB_iff {l m : List Int} : sameB l m = true ↔ l = m := by simp [sameB]

theorem run_str (w : World) (A : Option Addr) (l : List Int) (c : Nat) (h : IntsAt w A .u8 l) :
    (convert 23 9 (.slice A l.length c)).run Try.prog w = .ok (.string (strOfNums l)) w := by
  cases l with
  | nil =>
    cases A with
    | none => exact run_convert_bytes_nil w _ _ Try.underlying23 Try.underlying5 0 c _ Try.underlying9
    | some a =>
      rw [run_convert_bytes_string w _ _ _ _ _ c Try.underlying23 Try.underlying5 Try.underlying9]
      have := run_bytesToString (P := Try.prog) w a 0 c [] (by simp [loadCells, loadCellsFrom])
      exact this
  | cons x r =>
    obtain ⟨b, off, rfl, _⟩ := h 0 (by simp)
    refine run_convert_bytes_arg w _ _ Try.underlying23 Try.underlying5 b off (x :: r).length c (x :: r) rfl (fun i hi => ?_) _ Try.underlying9
    obtain ⟨b', off', e, _, hc⟩ := h i hi
    injection e with e
    injection e with e1 e2
    subst e1 e2
    exact hc

theorem str_inj {l m : List Int} (hl : ∀ x ∈ l, 0 ≤ x ∧ x ≤ 255) (hm : ∀ x ∈ m, 0 ≤ x ∧ x ≤ 255) (h : strOfNums l = strOfNums m) : l = m := by
  have h2 : (l.map fun n => UInt8.ofNat n.toNat) = (m.map fun n => UInt8.ofNat n.toNat) := by
    simpa [strOfNums] using h
  clear h
  induction l generalizing m with
  | nil => cases m with
    | nil => rfl
    | cons y s => simp at h2
  | cons x r ih => cases m with
    | nil => simp at h2
    | cons y s =>
      simp only [List.map_cons, List.cons.injEq] at h2
      have e1 := congrArg UInt8.toNat h2.1
      have hx := hl x (by simp)
      have hy := hm y (by simp)
      simp only [UInt8.toNat_ofNat'] at e1
      have e2 : x = y := by omega
      rw [e2, ih (fun z hz => hl z (by simp [hz])) (fun z hz => hm z (by simp [hz])) h2.2]

theorem str_toList (l : List Int) : (strOfNums l).toList = l.map fun n => UInt8.ofNat n.toNat := by
  rw [Lib.toList_data]; rfl

theorem sameBytes_any (A B : Option Addr) (c d : Nat) (l m : List Int) (w : World) (hl : IntsAt w A .u8 l) (hm : IntsAt w B .u8 m) (bl : ∀ x ∈ l, 0 ≤ x ∧ x ≤ 255) (bm : ∀ x ∈ m, 0 ≤ x ∧ x ≤ 255) :
    Calls Try.prog 12 #[.slice A l.length c, .slice B m.length d] w fun e w' => e = .returned (.bool (sameB l m)) ∧ w = w' := by
  have h1 := run_str w A l c hl
  have h2 := run_str w B m d hm
  have h3 : ((strOfNums l).toList == (strOfNums m).toList) = sameB l m := by
    rw [Bool.eq_iff_iff, sameB_iff, str_toList, str_toList, beq_iff_eq]
    exact ⟨fun h => str_inj bl bm (by rw [strOfNums, h, strOfNums]), fun h => by rw [h]⟩
  have H_hl := Lib.hid hl; clear hl; have H_hm := Lib.hid hm; clear hm; have H_bl := Lib.hid bl; clear bl; have H_bm := Lib.hid bm; clear bm; have H_h3 := Lib.hid h3; clear h3
  go_enter Try.func12, Try.ntmps12
  go_wp2
  go_ret
  exact ⟨ret_bool H_h3.out, rfl⟩

theorem list_ne_at {l m : List Int} {k : Nat} (h : l.getD k 0 ≠ m.getD k 0) : sameB l m = false := by
  rw [Bool.eq_false_iff]; intro h2; rw [sameB_iff] at h2; rw [h2] at h; exact h rfl
theorem list_eq_of {l m : List Int} (hl : l.length = m.length) (h : ∀ k, k < l.length → l.getD k 0 = m.getD k 0) : sameB l m = true := by
  rw [sameB_iff]
  apply List.ext_getElem hl
  intro i h1 h2
  have := h i h1
  simpa [List.getD_eq_getElem?_getD, h1, h2] using this

set_option maxHeartbeats 1000000 in
theorem sameInts_any (A B : Option Addr) (c d : Nat) (l m : List Int) (w : World) (hl : IntsAt w A .i64 l) (hm : IntsAt w B .i64 m) (hn : l.length ≤ 1000000) (hn2 : m.length ≤ 1000000) :
    Calls Try.prog 17 #[.slice A l.length c, .slice B m.length d] w fun e w' => e = .returned (.bool (sameB l m)) ∧ ∃ q, w' = w.drewN q := by
  by_cases hne : l.length = m.length
  · have hd : ((l.length : Int) != (m.length : Int)) = false := by simp [hne]
    generalize hN : l.length = N at *
    generalize hM : m.length = M at *
    have hs := @list_eq_of l m (by omega)
    have H_hl := Lib.hid hl; clear hl; have H_hm := Lib.hid hm; clear hm; have H_hN := Lib.hid hN; clear hN; have H_hM := Lib.hid hM; clear hM; have H_hne := Lib.hid hne; clear hne; have H_hs := Lib.hid hs; clear hs
    go_enter Try.func17, Try.ntmps17
    go_wp2
    go_loopw [5] (fun i wr => ∃ k q : Nat, k ≤ N ∧ i = .int .i64 k ∧ (∀ j, j < k → l.getD j 0 = m.getD j 0) ∧ wr = w.drewN q) (fun i _ => N - (intOf i).toNat)
    case atStart => exact ⟨0, 0, by omega, rfl, fun j hj => absurd hj (by omega), rfl⟩
    case round =>
      obtain ⟨k, q, hk, rfl, hall, rfl⟩ := hrel
      by_cases hlt : k < N
      · obtain ⟨b, off, hA, hbs, hc⟩ := H_hl.out k (by rw [H_hN.out]; exact hlt)
        obtain ⟨b2, off2, hA2, hbs2, hc2⟩ := H_hm.out k (by rw [H_hM.out]; have := H_hne.out; omega)
        have hltM : k < M := by have := H_hne.out; omega
        have i1 : (0 : Int) ≤ (k : Int) := by omega
        have i2 : (k : Int) < (N : Int) := by omega
        have i3 : (k : Int) < (M : Int) := by omega
        have hnx := @list_ne_at l m k
        subst hA hA2
        have hnext : l.getD k 0 = m.getD k 0 → ∀ j, j < k + 1 → l.getD j 0 = m.getD j 0 := fun he j hj => by
          rcases Nat.lt_or_ge j k with h | h
          · exact hall j h
          · rw [show j = k by omega]; exact he
        generalize l.getD k 0 = x at *
        generalize m.getD k 0 = y at *
        by_cases hxy : x = y
        · have hb : (x != y) = false := by simp [hxy]
          have H_hall := Lib.hid hall; clear hall; have H_hnext := Lib.hid hnext; clear hnext; have H_hnx := Lib.hid hnx; clear hnx; have H_hxy := Lib.hid hxy; clear hxy
          go_wp2
          go_quiet (fail)
          go_wp2
          go_roundw
          case rel => exact ⟨k + 1, _, by omega, by go_num, H_hnext.out H_hxy.out, rfl⟩
          case measure => simp [intOf]; omega
        · have hb : (x != y) = true := by simp [hxy]
          have H_hall := Lib.hid hall; clear hall; have H_hnext := Lib.hid hnext; clear hnext; have H_hnx := Lib.hid hnx; clear hnx; have H_hxy := Lib.hid hxy; clear hxy
          go_wp2
          go_quiet (fail)
          go_wp2
          go_ret
          exact ⟨ret_bool (H_hnx.out H_hxy.out).symm, _, World.drewN_drewN _ _ _⟩
      · have hfin : sameB l m = true := H_hs.out fun j hj => hall j (by rw [H_hN.out] at hj; omega)
        have H_hall := Lib.hid hall; clear hall; have H_hfin := Lib.hid hfin; clear hfin
        go_wp2
        go_ret
        exact ⟨ret_bool H_hfin.out.symm, _, rfl⟩
  · have hd : ((l.length : Int) != (m.length : Int)) = true := by simp; omega
    have hz : sameB l m = false := by rw [Bool.eq_false_iff]; intro h; rw [sameB_iff] at h; exact hne (by rw [h])
    have H_hl := Lib.hid hl; clear hl; have H_hm := Lib.hid hm; clear hm; have H_hne := Lib.hid hne; clear hne; have H_hz := Lib.hid hz; clear hz
    go_enter Try.func17, Try.ntmps17
    go_wp2
    go_ret
    exact ⟨ret_bool H_hz.out.symm, 0, rfl⟩

theorem refRead_at (A : Option Addr) (c n : Nat) (l : List Int) (hln : l.length = n) (w : World) (hl : IntsAt w A .u8 l) (hn : n ≤ 1000000) (hb : ∀ i, 0 ≤ l.getD i 0 ∧ l.getD i 0 ≤ 255) :
    Calls Try.prog 30 #[.slice A n c] w fun e w' => e = .returned (.tuple #[.int .i64 (rdV l), .int .i64 (rdN l)]) ∧ w = w' := by
  subst hln; exact refRead_any A c l w hl hn hb

theorem refGet_none (A : Option Addr) (c : Nat) (l : List Int) (w : World) (hl : IntsAt w A .u8 l) (hn : l.length ≤ 1000000) (hb : ∀ i, 0 ≤ l.getD i 0 ∧ l.getD i 0 ≤ 255)
    (h : (rdN l = 0 ∧ True) ∨ (0 < rdN l ∧ rdV l < 0) ∨ (0 < rdN l ∧ rdV l > 4000)) :
    Calls Try.prog 16 #[.slice A l.length c] w fun e w' => e = .returned (.tuple #[.slice none 0 0, .int .i64 7]) ∧ w = w' := by
  have key : (((rdN l : Int) == 0) = true ∧ True ∧ True) ∨ (((rdN l : Int) == 0) = false ∧ rdV l < 0 ∧ True) ∨ (((rdN l : Int) == 0) = false ∧ decide (rdV l < 0) = false ∧ 4000 < rdV l) := by
    rcases h with ⟨h, _⟩ | ⟨h, h'⟩ | ⟨h, h'⟩
    · exact .inl ⟨by simp [h], trivial, trivial⟩
    · exact .inr (.inl ⟨by simp; omega, h', trivial⟩)
    · exact .inr (.inr ⟨by simp; omega, by simp; omega, h'⟩)
  clear h
  have hc := refRead_any A c l w hl hn hb
  generalize rdN l = n at *
  generalize rdV l = v at *
  rcases key with ⟨k1, k2, k3⟩ | ⟨k1, k2, k3⟩ | ⟨k1, k2, k3⟩
  all_goals
    have H_hl := Lib.hid hl; clear hl; have H_hb := Lib.hid hb; clear hb; have H_hc := Lib.hid hc; clear hc
    go_enter Try.func16, Try.ntmps16
    go_wp2_with fail
    refine (H_hc.out).mono ?_; rintro e w1 ⟨rfl, rfl⟩
    go_wp2_with fail
    go_ret2
    exact ⟨rfl, rfl⟩

/-- the state of the loop of the reference's Get -/
structure RGetInv (l : List Int) (K : Nat) (w : World) (k P : Nat) (acc : List Int) (L : Option Addr) (d : Nat) (wr : World) : Prop where
  hk : k ≤ K
  hP : P ≤ l.length
  own : OwnInts wr w.heap.size 3 .i64 L d acc
  below : Below w.heap.size w wr
  alen : acc.length = k
  val : getB l = (getL (K - k) (l.drop P)).map (acc ++ ·)

theorem mem_bytes {l : List Int} (hb : ∀ i, 0 ≤ l.getD i 0 ∧ l.getD i 0 ≤ 255) : ∀ x ∈ l, 0 ≤ x ∧ x ≤ 255 := fun x hx => by
  obtain ⟨i, hi, rfl⟩ := List.getElem_of_mem hx
  have := hb i
  simpa [List.getD_eq_getElem?_getD, hi] using this
theorem bytes_getD {l : List Int} (hb : ∀ x ∈ l, 0 ≤ x ∧ x ≤ 255) : ∀ i, 0 ≤ l.getD i 0 ∧ l.getD i 0 ≤ 255 := fun i => by
  rcases Nat.lt_or_ge i l.length with hk | hk
  · have : l.getD i 0 = l[i] := by simp [List.getD_eq_getElem?_getD, hk]
    rw [this]; exact hb _ (List.getElem_mem hk)
  · have : l.getD i 0 = 0 := by simp [List.getD_eq_getElem?_getD, List.getElem?_eq_none hk]
    rw [this]; omega

set_option maxHeartbeats 2000000 in
theorem refGet_loop (b off c : Nat) (l : List Int) (w : World) (hl : IntsAt w (some ⟨b, off, none⟩) .u8 l) (hn : l.length ≤ 1000000) (hcap : l.length ≤ c) (hb : ∀ i, 0 ≤ l.getD i 0 ∧ l.getD i 0 ≤ 255) (u n : Nat) (hr : rd 0 0 l = some (u, n)) (hu1 : 0 ≤ uz u) (hu2 : uz u ≤ 4000) :
    Calls Try.prog 16 #[.slice (some ⟨b, off, none⟩) l.length c] w (GetPost l w) := by
  obtain ⟨i0, hi, hz0, hz1, hz2⟩ := info_parts infoI64
  have hln := rd_len l u n (mem_bytes hb) hr
  have k1 : ((rdN l : Int) == 0) = false := by simp [rdN, hr]; omega
  have hc := refRead_any (some ⟨b, off, none⟩) c l w hl hn hb
  have ev : rdV l = uz u := by simp [rdV, hr]
  have en : rdN l = n := by simp [rdN, hr]
  rw [ev, en] at hc
  rw [en] at k1
  obtain ⟨K, hK⟩ := Int.eq_ofNat_of_zero_le hu1
  have hval : getB l = (getL K (l.drop n)).map ([] ++ ·) := by
    simp only [getB, hr]; rw [if_neg (by omega), hK]; simp
  rw [hK] at hc hu1 hu2
  have k2 : decide ((K : Int) < 0) = false := by simp
  have k3 : decide (4000 < (K : Int)) = false := by simp; omega
  generalize hN : l.length = N at *
  have hnN := hln.1
  have H_hl := Lib.hid hl; clear hl; have H_hb := Lib.hid hb; clear hb; have H_hc := Lib.hid hc; clear hc; have H_hval := Lib.hid hval; clear hval; have H_hK := Lib.hid hK; clear hK; have H_hr := Lib.hid hr; clear hr; have H_hN := Lib.hid hN; clear hN; have H_ev := Lib.hid ev; clear ev; have H_en := Lib.hid en; clear en; have H_hln := Lib.hid hln; clear hln
  go_enter Try.func16, Try.ntmps16
  go_wp2_with fail
  refine (H_hc.out).mono ?_; rintro e w1 ⟨rfl, rfl⟩
  go_wp2_with fail
  go_loopw [5, 6, 7] (fun at_ out i wr => ∃ (k P : Nat) (acc : List Int) (L : Option Addr) (d : Nat), i = .int .i64 k ∧ at_ = .int .i64 P ∧ out = .slice L acc.length d ∧ RGetInv l K w k P acc L d wr) (fun _ _ i _ => K - (intOf i).toNat)
  case atStart => exact ⟨0, n, [], none, 0, rfl, rfl, rfl, by omega, by rw [H_hN.out]; exact hnN, OwnInts.nil _ _ _ _, Below.refl _ _, rfl, H_hval.out⟩
  case round =>
    obtain ⟨k, P, acc, L, d, rfl, rfl, rfl, inv⟩ := hrel
    have hk := inv.hk
    have hP : P ≤ N := by have := inv.hP; rw [H_hN.out] at this; exact this
    have hal := inv.alen
    have hsz := inv.below.size
    by_cases hlt : k < K
    · have hbD := getD_drop H_hb.out P
      have hlenD : (l.drop P).length = N - P := by rw [List.length_drop, H_hN.out]
      have hiD := (H_hl.out.drop P).below inv.below
      have hiE : N = P → IntsAt wr (some ⟨b, off, none⟩) .u8 (l.drop P) := fun h => IntsAt.empty (List.drop_eq_nil_of_le (by rw [H_hN.out]; omega))
      cases hrd : rd 0 0 (l.drop P) with
      | none =>
        have fin : GetPost l w (.returned (.tuple #[.slice none 0 0, .int .i64 7])) wr := .inl ⟨by rw [inv.val, show K - k = (K - k - 1) + 1 by omega, getL, hrd]; rfl, rfl, inv.below⟩
        have ev2 : rdV (l.drop P) = 0 := by simp [rdV, hrd]
        have en2 : rdN (l.drop P) = 0 := by simp [rdN, hrd]
        have H_inv := Lib.hid inv; clear inv; have H_hrd := Lib.hid hrd; clear hrd; have H_hbD := Lib.hid hbD; clear hbD; have H_hlenD := Lib.hid hlenD; clear hlenD; have H_hiD := Lib.hid hiD; clear hiD; have H_hiE := Lib.hid hiE; clear hiE; have H_fin := Lib.hid fin; clear fin; have H_hal := Lib.hid hal; clear hal
        go_wp2_with fail
        · refine (refRead_at (some ⟨b, off, none⟩) _ (N - P) (l.drop P) H_hlenD.out _ (H_hiE.out (by omega)) (by omega) H_hbD.out).mono ?_
          rintro e w1 ⟨rfl, rfl⟩
          go_wp2_with fail
          go_ret2
          exact H_fin.out
        · refine (refRead_at (some ⟨b, off + P, none⟩) _ (N - P) (l.drop P) H_hlenD.out _ H_hiD.out (by omega) H_hbD.out).mono ?_
          rintro e w1 ⟨rfl, rfl⟩
          go_wp2_with fail
          go_ret2
          exact H_fin.out
      | some un =>
        obtain ⟨u', n'⟩ := un
        have hl2 := rd_len _ u' n' (mem_bytes hbD) hrd
        have hn1 : n' ≤ N - P := by rw [← hlenD]; exact hl2.1
        have hn2 : 0 < n' := hl2.2
        have hPc : ¬ c = P := by omega
        have kk : ((n' : Int) == 0) = false := by simp; omega
        have ev2 : rdV (l.drop P) = uz u' := by simp [rdV, hrd]
        have en2 : rdN (l.drop P) = n' := by simp [rdN, hrd]
        have hc2 := refRead_at (some ⟨b, off + P, none⟩) (c - P) (N - P) (l.drop P) hlenD wr hiD (by omega) hbD
        rw [ev2, en2] at hc2
        have hown := inv.own
        have inv2 : ∀ L' d' w2, OwnInts w2 w.heap.size 3 .i64 L' d' (acc ++ [uz u']) → Below w.heap.size w w2 → RGetInv l K w (k + 1) (P + n') (acc ++ [uz u']) L' d' w2 := fun L' d' w2 h1 h2 =>
          ⟨by omega, by rw [H_hN.out]; omega, h1, h2, by simp [hal], by
            rw [inv.val, show K - k = (K - (k + 1)) + 1 by omega, getL, hrd]
            simp [Option.map_map, Function.comp_def]⟩
        have H_inv := Lib.hid inv; clear inv; have H_hrd := Lib.hid hrd; clear hrd; have H_hbD := Lib.hid hbD; clear hbD; have H_hlenD := Lib.hid hlenD; clear hlenD; have H_hiD := Lib.hid hiD; clear hiD; have H_hiE := Lib.hid hiE; clear hiE; have H_hal := Lib.hid hal; clear hal; have H_hl2 := Lib.hid hl2; clear hl2; have H_ev2 := Lib.hid ev2; clear ev2; have H_en2 := Lib.hid en2; clear en2; have H_hc2 := Lib.hid hc2; clear hc2; have H_hown := Lib.hid hown; clear hown; have H_inv2 := Lib.hid inv2; clear inv2
        go_wp2_with fail
        refine (H_hc2.out).mono ?_; rintro e w1 ⟨rfl, rfl⟩
        go_wp2_with (at_builtin; refine wp_app_ints _ rfl (.tmp 39) (.tmp 41) _ rfl w.heap.size 3 i0 _ 8 Try.underlying22 hi hz0 hz1 hz2 rfl .i64 L d acc rfl (H_hown.out.alloc _) (some ⟨wr.heap.size, 0, none⟩) 1 [uz u'] rfl (ints_new1 _ _ _ _ _ rfl) ?_ ?_ ?_ ?_)
        · have := H_hal.out; simp; omega
        · have := H_hal.out; simp; omega
        · simp; omega
        intro L' d' w2 ho2 hg2 hB2
        have hbw2 : Below w.heap.size w w2 := (H_hown.out.alloc _).grow (H_inv.out.below.alloc hsz _) hg2
        have inv3 := H_inv2.out L' d' w2 ho2 hbw2
        have H_ho2 := Lib.hid ho2; clear ho2; have H_hg2 := Lib.hid hg2; clear hg2; have H_hB2 := Lib.hid hB2; clear hB2; have H_hbw2 := Lib.hid hbw2; clear hbw2; have H_inv3 := Lib.hid inv3; clear inv3
        go_wp2_with fail
        go_roundw
        case rel => exact ⟨k + 1, P + n', acc ++ [uz u'], L', d', by go_num, by go_num, by simp, H_inv3.out⟩
        case measure => simp [intOf]; omega
    · have hkK : k = K := by omega
      by_cases hPN : P = N
      · have fin : GetPost l w (.returned (.tuple #[.slice L acc.length d, .int .i64 0])) wr := .inr ⟨acc, by rw [inv.val, hkK, List.drop_eq_nil_of_le (by rw [H_hN.out]; omega)]; simp [getL], L, d, rfl, inv.own, inv.below⟩
        have dd : ((P : Int) != (N : Int)) = false := by simp; omega
        have H_inv := Lib.hid inv; clear inv; have H_hkK := Lib.hid hkK; clear hkK; have H_fin := Lib.hid fin; clear fin; have H_hal := Lib.hid hal; clear hal; have H_hPN := Lib.hid hPN; clear hPN
        go_wp2_with fail
        go_ret2
        exact H_fin.out
      · have hne : l.drop P ≠ [] := fun h => by have := congrArg List.length h; rw [List.length_drop, H_hN.out] at this; simp at this; omega
        have fin : GetPost l w (.returned (.tuple #[.slice none 0 0, .int .i64 7])) wr := .inl ⟨by rw [inv.val, hkK]; simp [getL, hne], rfl, inv.below⟩
        have dd : ((P : Int) != (N : Int)) = true := by simp; omega
        have H_inv := Lib.hid inv; clear inv; have H_hkK := Lib.hid hkK; clear hkK; have H_fin := Lib.hid fin; clear fin; have H_hal := Lib.hid hal; clear hal; have H_hPN := Lib.hid hPN; clear hPN; have H_hne := Lib.hid hne; clear hne
        go_wp2_with fail
        go_ret2
        exact H_fin.out

theorem refGet_any (A : Option Addr) (c : Nat) (l : List Int) (w : World) (hl : IntsAt w A .u8 l) (hn : l.length ≤ 1000000) (hcap : l.length ≤ c) (hb : ∀ i, 0 ≤ l.getD i 0 ∧ l.getD i 0 ≤ 255) :
    Calls Try.prog 16 #[.slice A l.length c] w (GetPost l w) := by
  cases hr : rd 0 0 l with
  | none => exact (refGet_none A c l w hl hn hb (.inl ⟨by simp [rdN, hr], trivial⟩)).mono fun e w' h => .inl ⟨by simp [getB, hr], h.1, by rw [← h.2]; exact Below.refl _ _⟩
  | some un =>
    obtain ⟨u, n⟩ := un
    have hln := rd_len l u n (mem_bytes hb) hr
    by_cases hu : uz u < 0 ∨ uz u > 4000
    · refine (refGet_none A c l w hl hn hb (.inr ?_)).mono fun e w' h => .inl ⟨by simp only [getB, hr]; rw [if_pos hu], h.1, by rw [← h.2]; exact Below.refl _ _⟩
      have ev : rdV l = uz u := by simp [rdV, hr]
      have en : rdN l = n := by simp [rdN, hr]
      rw [ev, en]
      rcases hu with hu | hu
      · exact .inl ⟨hln.2, hu⟩
      · exact .inr ⟨hln.2, hu⟩
    · obtain ⟨b, off, rfl, _⟩ := hl 0 (by omega)
      exact refGet_loop b off c l w hl hn hcap hb u n hr (by omega) (by omega)
end Go.Proofs.Ytopdgjpoknndmaa
