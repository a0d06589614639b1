/- Contracts of package money: Parse. -/
import Derived.Test.YtaloadadecoogaaDoorMnL
import Derived.Test.YtaloadadecoogaaDoorMnR
namespace Go.Proofs.YtaloadadecoogaaDoor
set_option linter.unusedSimpArgs false
set_option linter.unusedVariables false
set_option maxRecDepth 100000
open Go.RowKit Go.Maps

/-- the number and the error of a string that is read -/
def psN (s : ByteArray) : Int := psV s.data.toList
def psE (s : ByteArray) : Int := if amtB (psN s) = true ∧ mS (psN s) = s then 0 else 7
def psR (s : ByteArray) : Int := if amtB (psN s) = true ∧ mS (psN s) = s then psN s else 0
theorem psN_bound (s : ByteArray) : -10000000009 ≤ psN s ∧ psN s ≤ 10000000009 := by
  have h := dg_step_bound s.data.toList 0 (by omega) (by omega)
  unfold psN psV
  split <;> omega
theorem psN_head (s : ByteArray) (h : 0 < s.size) : s.data.toList.head? = some (s[0]'h) := by
  have h2 := drop_byte s 0 h
  rw [List.drop_zero] at h2
  rw [h2]
  have g := get_at s 0 h
  simp only [Nat.add_zero] at g
  rw [g]; rfl
theorem psN_neg (s : ByteArray) (h : 0 < s.size) (h1 : (((s[0]'h).toNat : Int) == 45) = true) : psN s = - dgL s.data.toList 0 := by
  rw [beq_iff_eq] at h1
  have e : s[0]'h = 45 := UInt8.toNat_inj.1 (by rw [show ((45 : UInt8)).toNat = 45 from rfl]; omega)
  rw [psN, psV, psN_head s h, e, if_pos rfl]
theorem psN_pos (s : ByteArray) (h : 0 < s.size) (h1 : (((s[0]'h).toNat : Int) == 45) = false) : psN s = dgL s.data.toList 0 := by
  rw [beq_eq_false_iff_ne] at h1
  rw [psN, psV, psN_head s h, if_neg (fun e => h1 (by rw [Option.some.inj e]; rfl))]
theorem psN_nil (s : ByteArray) (h : ¬ 0 < s.size) : psN s = dgL s.data.toList 0 ∧ s.toList.isEmpty = true := by
  have e : s.data.toList = [] := by
    apply List.eq_nil_of_length_eq_zero
    have : s.data.toList.length = s.size := Array.length_toList
    omega
  refine ⟨by rw [psN, psV, e]; rfl, by rw [Lib.toList_data, e]; rfl⟩
theorem not_nil (s : ByteArray) (h : 0 < s.size) : s.toList.isEmpty = false := by
  rw [Lib.toList_data]
  cases e : s.data.toList with
  | nil =>
    have : s.data.toList.length = s.size := Array.length_toList
    rw [e] at this; simp at this; omega
  | cons _ _ => rfl
/-- what is answered, by what the text is -/
theorem ps_ways (s : ByteArray) : (tE (psN s) = 1 ∧ psR s = 0 ∧ psE s = 7) ∨ (tE (psN s) = 0 ∧ tS (psN s) = s ∧ psR s = psN s ∧ psE s = 0) ∨ (tE (psN s) = 0 ∧ ((tS (psN s)).toList == s.toList) = false ∧ psR s = 0 ∧ psE s = 7) := by
  unfold tE tS psR psE
  cases ha : amtB (psN s) with
  | false => exact Or.inl ⟨rfl, by rw [if_neg (by simp)], by rw [if_neg (by simp)]⟩
  | true =>
    by_cases h : mS (psN s) = s
    · exact Or.inr (Or.inl ⟨rfl, by rw [if_pos rfl]; exact h, by rw [if_pos ⟨rfl, h⟩], by rw [if_pos ⟨rfl, h⟩]⟩)
    · refine Or.inr (Or.inr ⟨rfl, ?_, by rw [if_neg (fun e => h e.2)], by rw [if_neg (fun e => h e.2)]⟩)
      rw [if_pos rfl, beq_eq_false_iff_ne, Lib.toList_data, Lib.toList_data]
      intro e
      exact h (ByteArray.ext (Array.toList_inj.1 e))
set_option maxHeartbeats 8000000 in
theorem mparse_any (s : ByteArray) (hs : s.size ≤ 1000000) (w : World) (ht : Tab w) :
    Calls Tryd.prog 19 #[.string s] w fun e w' => e = .returned (.tuple #[.int .i64 (psR s), .int .i64 (psE s)]) ∧ Below w.heap.size w w' := by
  obtain ⟨it, hit⟩ : ∃ it, w.heap.size = it := ⟨_, rfl⟩
  obtain ⟨w0, hw0⟩ : ∃ W, w.iter s 0 = W := ⟨_, rfl⟩
  have hk0 := World.iter_heap w s 0
  have bb0 : Below w.heap.size w (w.iter s 0) := (Below.refl _ _).alloc (Nat.le_refl _) _
  rw [hit, hw0] at hk0
  rw [hw0] at bb0
  have H_bb0 := Lib.hid bb0; clear bb0; have H_hk0 := Lib.hid hk0; clear hk0; have H_ht := Lib.hid ht; clear ht; have H_hs := Lib.hid hs; clear hs; have H_hw0 := Lib.hid hw0; clear hw0
  go_enter Tryd.func19, Tryd.ntmps19
  go_upto_region 3 with (fail)
  rw [H_hw0.out]
  have H_hit := Lib.hid hit; clear hit
  go_loopw [4] (fun n wr => ∃ (p : Nat) (acc : Int), p ≤ s.size ∧ n = .int .i64 acc ∧ wr.heap[it]? = some (.stringIter s p) ∧ Below w.heap.size w wr ∧ (0 ≤ acc ∧ acc ≤ 10000000009) ∧ dgL (s.data.toList.drop p) acc = dgL s.data.toList 0) (fun _ wr => s.size - wr.iterPos it)
  case atStart => exact ⟨0, 0, by omega, rfl, H_hk0.out, H_bb0.out, by omega, rfl⟩
  case round =>
    obtain ⟨p, acc, hp0, rfl, hk, hbt, hac, hdg⟩ := hrel
    have hst := hbt.size
    have hmu : wr.iterPos it = p := by simp [World.iterPos, hk]
    by_cases hp : p < s.size
    · have hnext : ∀ ty, (Instr.next (.pointer (some ⟨it, 0, none⟩)) true ty).run Tryd.prog wr = _ := fun ty => Lib.run_next_any_at wr it s p ty hk hp
      obtain ⟨g1, g2, g3⟩ := dg_rune s p acc hp
      have g4 := decode_le s p
      generalize hdc : Utf8.decode s p = dc at *
      obtain ⟨r, k⟩ := dc
      simp only at hnext g1 g2 g3 g4
      rw [hdg] at g1
      have hk1 := Lib.iterAt_heap wr it s p (p + k) hk
      have hb1 : Below w.heap.size w (wr.iterAt it s (p + k)) := Lib.below_iterAt hbt (by rw [H_hit.out]; exact Nat.le_refl _) s (p + k)
      generalize wr.iterAt it s (p + k) = W1 at hnext hk1 hb1
      have q := fun W => mwithin_any (r : Int) 48 57 W
      have hr : (0 : Int) ≤ (r : Int) ∧ (r : Int) ≤ 2147483647 := by omega
      have hrx : dgR acc (r : Int) = if inB (r : Int) 48 57 = true ∧ acc ≤ 1000000000 then 10 * acc + ((r : Int) - 48) else acc := by
        unfold dgR inB
        by_cases h1 : 48 ≤ (r : Int) ∧ (r : Int) ≤ 57 ∧ acc ≤ 1000000000
        · rw [if_pos h1, if_pos ⟨by simp; omega, h1.2.2⟩]
        · rw [if_neg h1, if_neg (by rintro ⟨h2, h3⟩; simp at h2; omega)]
      have hin : inB (r : Int) 48 57 = true → 48 ≤ (r : Int) ∧ (r : Int) ≤ 57 := by unfold inB; simp
      have hmu1 : W1.iterPos it = p + k := by simp [World.iterPos, hk1]
      have hdR : dgR acc (r : Int) = 10 * acc + ((r : Int) - 48) ∨ dgR acc (r : Int) = acc := by unfold dgR; split <;> simp
      generalize (r : Int) = R at *
      have h3 : IntKind.i64.wrap R = R := IntWalk.i64_in _ (by omega)
      by_cases hc : inB R 48 57 = true
      · have hR := hin hc
        rw [hc] at q
        by_cases ha : acc ≤ 1000000000
        · rw [if_pos ⟨hc, ha⟩] at hrx
          have i1 : decide (acc ≤ 1000000000) = true := decide_eq_true ha
          have k1 : IntKind.i64.wrap (10 * acc) = 10 * acc := IntWalk.i64_in _ (by omega)
          have k2 : IntKind.i64.wrap (10 * acc + (R - 48)) = 10 * acc + (R - 48) := IntWalk.i64_in _ (by omega)
          rw [hrx] at g1
          clear hrx hdR
          have H_hk := Lib.hid hk; clear hk; have H_hbt := Lib.hid hbt; clear hbt; have H_hdg := Lib.hid hdg; clear hdg; have H_hmu := Lib.hid hmu; clear hmu; have H_hk1 := Lib.hid hk1; clear hk1; have H_hb1 := Lib.hid hb1; clear hb1; have H_q := Lib.hid q; clear q; have H_g1 := Lib.hid g1; clear g1; have H_hdc := Lib.hid hdc; clear hdc; have H_g2 := Lib.hid g2; clear g2; have H_g3 := Lib.hid g3; clear g3; have H_g4 := Lib.hid g4; clear g4; have H_hin := Lib.hid hin; clear hin; have H_hmu1 := Lib.hid hmu1; clear hmu1; have H_hc := Lib.hid hc; clear hc; have H_hp0 := Lib.hid hp0; clear hp0
          go_wp2_with fail
          (with_reducible refine (H_q.out _).mono ?_)
          rintro e w_ ⟨rfl, rfl⟩
          go_wp2_with fail
          go_roundw
          case rel => exact ⟨p + k, _, H_g3.out, by rfl, H_hk1.out, H_hb1.out, by omega, H_g1.out.symm⟩
          case measure => rw [H_hmu.out, H_hmu1.out]; have := H_g2.out; omega
        · rw [if_neg (fun h => ha h.2)] at hrx
          have i1 : decide (acc ≤ 1000000000) = false := decide_eq_false ha
          rw [hrx] at g1
          clear hrx hdR
          have H_hk := Lib.hid hk; clear hk; have H_hbt := Lib.hid hbt; clear hbt; have H_hdg := Lib.hid hdg; clear hdg; have H_hmu := Lib.hid hmu; clear hmu; have H_hk1 := Lib.hid hk1; clear hk1; have H_hb1 := Lib.hid hb1; clear hb1; have H_q := Lib.hid q; clear q; have H_g1 := Lib.hid g1; clear g1; have H_hdc := Lib.hid hdc; clear hdc; have H_g2 := Lib.hid g2; clear g2; have H_g3 := Lib.hid g3; clear g3; have H_g4 := Lib.hid g4; clear g4; have H_hin := Lib.hid hin; clear hin; have H_hmu1 := Lib.hid hmu1; clear hmu1; have H_hc := Lib.hid hc; clear hc; have H_hp0 := Lib.hid hp0; clear hp0
          go_wp2_with fail
          (with_reducible refine (H_q.out _).mono ?_)
          rintro e w_ ⟨rfl, rfl⟩
          go_wp2_with fail
          go_roundw
          case rel => exact ⟨p + k, _, H_g3.out, by rfl, H_hk1.out, H_hb1.out, by omega, H_g1.out.symm⟩
          case measure => rw [H_hmu.out, H_hmu1.out]; have := H_g2.out; omega
      · rw [if_neg (fun h => hc h.1)] at hrx
        have hc2 : inB R 48 57 = false := by simpa using hc
        rw [hc2] at q
        rw [hrx] at g1
        clear hrx hdR
        have H_hk := Lib.hid hk; clear hk; have H_hbt := Lib.hid hbt; clear hbt; have H_hdg := Lib.hid hdg; clear hdg; have H_hmu := Lib.hid hmu; clear hmu; have H_hk1 := Lib.hid hk1; clear hk1; have H_hb1 := Lib.hid hb1; clear hb1; have H_q := Lib.hid q; clear q; have H_g1 := Lib.hid g1; clear g1; have H_hdc := Lib.hid hdc; clear hdc; have H_g2 := Lib.hid g2; clear g2; have H_g3 := Lib.hid g3; clear g3; have H_g4 := Lib.hid g4; clear g4; have H_hin := Lib.hid hin; clear hin; have H_hmu1 := Lib.hid hmu1; clear hmu1; have H_hc := Lib.hid hc; clear hc; have H_hp0 := Lib.hid hp0; clear hp0; have H_hc2 := Lib.hid hc2; clear hc2
        go_wp2_with fail
        (with_reducible refine (H_q.out _).mono ?_)
        rintro e w_ ⟨rfl, rfl⟩
        go_wp2_with fail
        go_roundw
        case rel => exact ⟨p + k, _, H_g3.out, by rfl, H_hk1.out, H_hb1.out, by omega, H_g1.out.symm⟩
        case measure => rw [H_hmu.out, H_hmu1.out]; have := H_g2.out; omega
    · have hnext : ∀ ty, (Instr.next (.pointer (some ⟨it, 0, none⟩)) true ty).run Tryd.prog wr = _ := fun ty => Lib.run_next_end_at wr it s p ty hk hp
      have e0 : acc = dgL s.data.toList 0 := by
        rw [← hdg, List.drop_of_length_le (by rw [Array.length_toList]; have : s.size = s.data.size := rfl; omega)]; rfl
      have pb := psN_bound s
      have ways := ps_ways s
      have q := mtext_any (psN s) (by omega) wr (H_ht.out.below hbt)
      clear hdg hp0 hk hmu
      by_cases h0 : 0 < s.size
      · have i0 := not_nil s h0
        cases h1 : (((s[0]'h0).toNat : Int) == 45) with
        | true =>
          have eN := psN_neg s h0 h1
          rw [← e0] at eN
          generalize psN s = N at *
          generalize tS N = T at *
          generalize tE N = F at *
          have kN : IntKind.i64.wrap (-acc) = N := by rw [IntWalk.i64_in _ (by omega)]; omega
          rcases ways with ⟨rfl, eR, eE⟩ | ⟨rfl, eT, eR, eE⟩ | ⟨rfl, hne, eR, eE⟩
          · have H_q := Lib.hid q; clear q; have H_hbt := Lib.hid hbt; clear hbt; have H_pb := Lib.hid pb; clear pb; have H_e0 := Lib.hid e0; clear e0; have H_eR := Lib.hid eR; clear eR; have H_eE := Lib.hid eE; clear eE; have H_eN := Lib.hid eN; clear eN
            go_wp2_with fail
            (with_reducible refine H_q.out.mono ?_)
            rintro e w2 ⟨rfl, b2⟩
            have bb2 := H_hbt.out.trans (b2.mono hst)
            have H_b2 := Lib.hid b2; clear b2; have H_bb2 := Lib.hid bb2; clear bb2
            go_wp2_with fail
            go_ret2
            exact ⟨by rw [H_eR.out, H_eE.out]; rfl, H_bb2.out⟩
          · subst T
            have H_q := Lib.hid q; clear q; have H_hbt := Lib.hid hbt; clear hbt; have H_pb := Lib.hid pb; clear pb; have H_e0 := Lib.hid e0; clear e0; have H_eR := Lib.hid eR; clear eR; have H_eE := Lib.hid eE; clear eE; have H_eN := Lib.hid eN; clear eN
            go_wp2_with fail
            (with_reducible refine H_q.out.mono ?_)
            rintro e w2 ⟨rfl, b2⟩
            have bb2 := H_hbt.out.trans (b2.mono hst)
            have H_b2 := Lib.hid b2; clear b2; have H_bb2 := Lib.hid bb2; clear bb2
            go_wp2_with fail
            go_ret2
            exact ⟨by rw [H_eR.out, H_eE.out]; rfl, H_bb2.out⟩
          · have H_q := Lib.hid q; clear q; have H_hbt := Lib.hid hbt; clear hbt; have H_pb := Lib.hid pb; clear pb; have H_e0 := Lib.hid e0; clear e0; have H_eR := Lib.hid eR; clear eR; have H_eE := Lib.hid eE; clear eE; have H_eN := Lib.hid eN; clear eN
            go_wp2_with fail
            (with_reducible refine H_q.out.mono ?_)
            rintro e w2 ⟨rfl, b2⟩
            have bb2 := H_hbt.out.trans (b2.mono hst)
            have H_b2 := Lib.hid b2; clear b2; have H_bb2 := Lib.hid bb2; clear bb2
            go_wp2_with fail
            go_ret2
            exact ⟨by rw [H_eR.out, H_eE.out]; rfl, H_bb2.out⟩
        | false =>
          have eN := psN_pos s h0 h1
          rw [← e0] at eN
          generalize psN s = N at *
          generalize tS N = T at *
          generalize tE N = F at *
          subst eN
          rcases ways with ⟨rfl, eR, eE⟩ | ⟨rfl, eT, eR, eE⟩ | ⟨rfl, hne, eR, eE⟩
          · have H_q := Lib.hid q; clear q; have H_hbt := Lib.hid hbt; clear hbt; have H_pb := Lib.hid pb; clear pb; have H_e0 := Lib.hid e0; clear e0; have H_eR := Lib.hid eR; clear eR; have H_eE := Lib.hid eE; clear eE
            go_wp2_with fail
            (with_reducible refine H_q.out.mono ?_)
            rintro e w2 ⟨rfl, b2⟩
            have bb2 := H_hbt.out.trans (b2.mono hst)
            have H_b2 := Lib.hid b2; clear b2; have H_bb2 := Lib.hid bb2; clear bb2
            go_wp2_with fail
            go_ret2
            exact ⟨by rw [H_eR.out, H_eE.out]; rfl, H_bb2.out⟩
          · subst T
            have H_q := Lib.hid q; clear q; have H_hbt := Lib.hid hbt; clear hbt; have H_pb := Lib.hid pb; clear pb; have H_e0 := Lib.hid e0; clear e0; have H_eR := Lib.hid eR; clear eR; have H_eE := Lib.hid eE; clear eE
            go_wp2_with fail
            (with_reducible refine H_q.out.mono ?_)
            rintro e w2 ⟨rfl, b2⟩
            have bb2 := H_hbt.out.trans (b2.mono hst)
            have H_b2 := Lib.hid b2; clear b2; have H_bb2 := Lib.hid bb2; clear bb2
            go_wp2_with fail
            go_ret2
            exact ⟨by rw [H_eR.out, H_eE.out]; rfl, H_bb2.out⟩
          · have H_q := Lib.hid q; clear q; have H_hbt := Lib.hid hbt; clear hbt; have H_pb := Lib.hid pb; clear pb; have H_e0 := Lib.hid e0; clear e0; have H_eR := Lib.hid eR; clear eR; have H_eE := Lib.hid eE; clear eE
            go_wp2_with fail
            (with_reducible refine H_q.out.mono ?_)
            rintro e w2 ⟨rfl, b2⟩
            have bb2 := H_hbt.out.trans (b2.mono hst)
            have H_b2 := Lib.hid b2; clear b2; have H_bb2 := Lib.hid bb2; clear bb2
            go_wp2_with fail
            go_ret2
            exact ⟨by rw [H_eR.out, H_eE.out]; rfl, H_bb2.out⟩
      · obtain ⟨eN, i0⟩ := psN_nil s h0
        rw [← e0] at eN
        generalize psN s = N at *
        generalize tS N = T at *
        generalize tE N = F at *
        subst eN
        rcases ways with ⟨rfl, eR, eE⟩ | ⟨rfl, eT, eR, eE⟩ | ⟨rfl, hne, eR, eE⟩
        · have H_q := Lib.hid q; clear q; have H_hbt := Lib.hid hbt; clear hbt; have H_pb := Lib.hid pb; clear pb; have H_e0 := Lib.hid e0; clear e0; have H_eR := Lib.hid eR; clear eR; have H_eE := Lib.hid eE; clear eE
          go_wp2_with fail
          (with_reducible refine H_q.out.mono ?_)
          rintro e w2 ⟨rfl, b2⟩
          have bb2 := H_hbt.out.trans (b2.mono hst)
          have H_b2 := Lib.hid b2; clear b2; have H_bb2 := Lib.hid bb2; clear bb2
          go_wp2_with fail
          go_ret2
          exact ⟨by rw [H_eR.out, H_eE.out]; rfl, H_bb2.out⟩
        · subst T
          have H_q := Lib.hid q; clear q; have H_hbt := Lib.hid hbt; clear hbt; have H_pb := Lib.hid pb; clear pb; have H_e0 := Lib.hid e0; clear e0; have H_eR := Lib.hid eR; clear eR; have H_eE := Lib.hid eE; clear eE
          go_wp2_with fail
          (with_reducible refine H_q.out.mono ?_)
          rintro e w2 ⟨rfl, b2⟩
          have bb2 := H_hbt.out.trans (b2.mono hst)
          have H_b2 := Lib.hid b2; clear b2; have H_bb2 := Lib.hid bb2; clear bb2
          go_wp2_with fail
          go_ret2
          exact ⟨by rw [H_eR.out, H_eE.out]; rfl, H_bb2.out⟩
        · have H_q := Lib.hid q; clear q; have H_hbt := Lib.hid hbt; clear hbt; have H_pb := Lib.hid pb; clear pb; have H_e0 := Lib.hid e0; clear e0; have H_eR := Lib.hid eR; clear eR; have H_eE := Lib.hid eE; clear eE
          go_wp2_with fail
          (with_reducible refine H_q.out.mono ?_)
          rintro e w2 ⟨rfl, b2⟩
          have bb2 := H_hbt.out.trans (b2.mono hst)
          have H_b2 := Lib.hid b2; clear b2; have H_bb2 := Lib.hid bb2; clear bb2
          go_wp2_with fail
          go_ret2
          exact ⟨by rw [H_eR.out, H_eE.out]; rfl, H_bb2.out⟩
end Go.Proofs.YtaloadadecoogaaDoor
