/- Contracts of package codec: sum, Frame. -/
import Derived.Test.YtopdgjpoknndmaaCodH
namespace Go.Proofs.Ytopdgjpoknndmaa
set_option linter.unusedSimpArgs false
set_option linter.unusedVariables false
set_option maxRecDepth 100000
open Go.RowKit

/-- byte i of a number, the highest first -/
def b8 (d : Int) (i : Nat) : Int := d / 2 ^ (56 - 8 * i) % 256
theorem be8_eq (d : Int) : be8 d = [b8 d 0, b8 d 1, b8 d 2, b8 d 3, b8 d 4, b8 d 5, b8 d 6, b8 d 7] := rfl

theorem stepB_bd (d b : Int) : 0 ≤ stepB d b ∧ stepB d b ≤ 18446744073709551615 := by
  unfold stepB; rw [IntKind.wrap_u64]; omega
theorem sumB_bd (d : Int) (h : 0 ≤ d ∧ d ≤ 18446744073709551615) (l : List Int) : 0 ≤ sumB d l ∧ sumB d l ≤ 18446744073709551615 := by
  induction l generalizing d with
  | nil => exact h
  | cons x r ih => exact ih (stepB d x) (stepB_bd d x)

set_option maxHeartbeats 2000000 in
theorem sum_any (A : Option Addr) (c : Nat) (l : List Int) (w : World) (hl : IntsAt w A .u8 l) (hn : l.length ≤ 1000000) (hb : ∀ i, 0 ≤ l.getD i 0 ∧ l.getD i 0 ≤ 255) (d : Int) (hd : sumB 14695981039346656037 l = d) :
    Calls Try.prog 25 #[.slice A l.length c] w fun e w' => e = .returned (.agg #[.int .u8 (b8 d 0), .int .u8 (b8 d 1), .int .u8 (b8 d 2), .int .u8 (b8 d 3), .int .u8 (b8 d 4), .int .u8 (b8 d 5), .int .u8 (b8 d 6), .int .u8 (b8 d 7)]) ∧ Below w.heap.size w w' := by
  have hbd := sumB_bd 14695981039346656037 (by omega) l
  rw [hd] at hbd
  have hd0 := hbd.1
  have hd1 := hbd.2
  have H_hl := Lib.hid hl; clear hl; have H_hb := Lib.hid hb; clear hb; have H_hd := Lib.hid hd; clear hd; have H_hbd := Lib.hid hbd; clear hbd
  go_enter Try.func25, Try.ntmps25
  go_wp2_with fail
  refine (digSum_any A c l _ (H_hl.out.alloc _) (by omega) H_hb.out).mono ?_
  rw [H_hd.out]
  rintro e w1 ⟨rfl, hb1⟩
  go_wp2_with fail
  have hs1 := hb1.size
  simp only [World.size_alloc, World.heap_drewN, World.size_setCell, heap_drew] at hs1
  have k0 := keepc hb1 (b := w.heap.size) (o := 0) (by simp) (by go_simp; rfl)
  have k1 := keepc hb1 (b := w.heap.size) (o := 1) (by simp) (by go_simp; rfl)
  have k2 := keepc hb1 (b := w.heap.size) (o := 2) (by simp) (by go_simp; rfl)
  have k3 := keepc hb1 (b := w.heap.size) (o := 3) (by simp) (by go_simp; rfl)
  have k4 := keepc hb1 (b := w.heap.size) (o := 4) (by simp) (by go_simp; rfl)
  have k5 := keepc hb1 (b := w.heap.size) (o := 5) (by simp) (by go_simp; rfl)
  have k6 := keepc hb1 (b := w.heap.size) (o := 6) (by simp) (by go_simp; rfl)
  have k7 := keepc hb1 (b := w.heap.size) (o := 7) (by simp) (by go_simp; rfl)
  have f0 : ∀ o, w1.frozen? ⟨w.heap.size, o, none⟩ = false := fun o => keepf hb1 (b := w.heap.size) (o := o) (by simp) (by go_simp)
  have z0 : w.heap.size < w1.heap.size := by omega
  have z1 : ¬ w.heap.size = w1.heap.size := by omega
  have gb : Below w.heap.size w w1 := (by (repeat (first | with_reducible exact Below.refl _ _ | with_reducible exact Nat.le_refl _ | with_reducible assumption | with_reducible refine Below.drew ?_ | with_reducible refine below_drewN ?_ _ | with_reducible refine Below.alloc ?_ ?_ _ | with_reducible refine Below.setCell ?_ ?_ _ | with_reducible exact And.right (by assumption) | with_reducible refine Below.trans ?_ (Below.mono (by assumption) ?_) | with_reducible exact Below.size (And.right (by assumption)) | (focus omega) | (focus (simp; done)) | (focus (simp; omega)) | (focus (simp at *; omega)))))
  have H_hb1 := Lib.hid hb1; clear hb1
  refine wp_loop_rounds 9 ?_
  iterate 9 (rw [rounds_succ]; go_wp2)
  refine bodyPost_ret (v := .agg #[.int .u8 (d / 72057594037927936), .int .u8 (d / 281474976710656 % 256), .int .u8 (d / 1099511627776 % 256), .int .u8 (d / 4294967296 % 256), .int .u8 (d / 16777216 % 256), .int .u8 (d / 65536 % 256), .int .u8 (d / 256 % 256), .int .u8 (d % 256)]) ?_ rfl ?_
  · simp [results, Try.results25, go_sem, k0, k1, k2, k3, k4, k5, k6, k7, z0]
  have e0 : d / 72057594037927936 = b8 d 0 := by unfold b8; simp; omega
  refine ⟨?_, (by (repeat (first | with_reducible exact Below.refl _ _ | with_reducible exact Nat.le_refl _ | with_reducible assumption | with_reducible refine Below.drew ?_ | with_reducible refine below_drewN ?_ _ | with_reducible refine Below.alloc ?_ ?_ _ | with_reducible refine Below.setCell ?_ ?_ _ | with_reducible exact And.right (by assumption) | with_reducible refine Below.trans ?_ (Below.mono (by assumption) ?_) | with_reducible exact Below.size (And.right (by assumption)) | (focus omega) | (focus (simp; done)) | (focus (simp; omega)) | (focus (simp at *; omega)))))⟩
  rw [e0]
  simp [b8]

theorem own_lit {w : World} {base : Nat} {E : TypeId} {k : IntKind} (l : List Int) (hb : base ≤ w.heap.size) (hl : l.length ≤ 1000) (n : Nat) (hn : w.heap.size = n) :
    OwnInts (w.alloc (.cells (l.map (Value.int k)).toArray E)) base E k (some ⟨n, 0, none⟩) l.length l := by
  subst hn
  have := World.ownsRow_lit (base := base) (e := E) (size := 1) w (l.map (Value.int k)).toArray l.length hb (by unfold maxLen; omega) (by simp)
  simpa [OwnInts] using this
theorem ints_lit {w : World} {E : TypeId} {k : IntKind} (l : List Int) (n : Nat) (hn : w.heap.size = n) : IntsAt (w.alloc (.cells (l.map (Value.int k)).toArray E)) (some ⟨n, 0, none⟩) k l := fun i hi => by
  subst hn
  refine ⟨w.heap.size, 0, rfl, by simp, ?_⟩
  rw [cell_of_row _ _ _ _ _ _ (heap_alloc_new w _)]
  simp [List.getD_eq_getElem?_getD, hi]

/-- the head of a frame -/
def hdB (n : Nat) : List Int := [(n : Int) / 65536, (n : Int) / 256 % 256, (n : Int) % 256]
/-- the bytes of integers with their length and digest -/
def frameB (l : List Int) : List Int := (hdB (putB l).length ++ putB l) ++ be8 (sumB 14695981039346656037 (hdB (putB l).length ++ putB l))
theorem bodyB_bytes (l : List Int) : ∀ x ∈ bodyB l, 0 ≤ x ∧ x ≤ 255 := fun x hx => by
  obtain ⟨n, _, hn⟩ := List.mem_flatMap.1 hx
  exact vb_bytes _ x hn
theorem putB_bytes (l : List Int) : ∀ x ∈ putB l, 0 ≤ x ∧ x ≤ 255 := fun x hx => by
  rcases List.mem_append.1 hx with h | h
  · exact vb_bytes _ x h
  · exact bodyB_bytes l x h
theorem putB_len (l : List Int) (hn : l.length ≤ 4000) (hb : ∀ x ∈ l, -9223372036854775808 ≤ x ∧ x ≤ 9223372036854775807) : (putB l).length ≤ 40010 := by
  have h1 := bodyB_len l hb
  have h2 := vb_len (zz l.length) (zz_lt _ (by omega) (by omega))
  simp [putB]; omega
theorem hdB_bytes (n : Nat) (h : n < 16777216) : ∀ x ∈ hdB n, 0 ≤ x ∧ x ≤ 255 := fun x hx => by
  simp [hdB] at hx; rcases hx with rfl | rfl | rfl <;> omega
theorem be8_bytes (d : Int) : ∀ x ∈ be8 d, 0 ≤ x ∧ x ≤ 255 := fun x hx => by
  simp only [be8, List.mem_map] at hx
  obtain ⟨i, _, rfl⟩ := hx
  omega

theorem codFrame_no (A : Option Addr) (c n : Nat) (w : World) (h : 4000 < n) :
    Calls Try.prog 13 #[.slice A n c] w fun e w' => e = .returned (.tuple #[.slice none 0 0, .int .i64 2]) ∧ w = w' := by
  go_enter Try.func13, Try.ntmps13
  go_wp2_with fail
  refine (codPut_no A c n w h).mono ?_; rintro e w1 ⟨rfl, rfl⟩
  go_wp2_with fail
  go_ret2
  exact ⟨rfl, rfl⟩

set_option maxHeartbeats 2000000 in
theorem codFrame_any (A : Option Addr) (c : Nat) (l : List Int) (w : World) (hl : IntsAt w A .i64 l) (hn : l.length ≤ 4000) (hb : ∀ x ∈ l, -9223372036854775808 ≤ x ∧ x ≤ 9223372036854775807) :
    Calls Try.prog 13 #[.slice A l.length c] w (OwnErr 5 .u8 (frameB l) 0 w) := by
  obtain ⟨i0, hi, hz0, hz1, hz2⟩ := info_parts infoU8
  have hpl := putB_len l hn hb
  have hpb := putB_bytes l
  have hc := codPut_any A c l w hl hn hb
  have hfr : frameB l = (hdB (putB l).length ++ putB l) ++ be8 (sumB 14695981039346656037 (hdB (putB l).length ++ putB l)) := rfl
  generalize putB l = X at *
  have H_hl := Lib.hid hl; clear hl; have H_hb := Lib.hid hb; clear hb; have H_hpb := Lib.hid hpb; clear hpb; have H_hc := Lib.hid hc; clear hc; have H_hfr := Lib.hid hfr; clear hfr
  go_enter Try.func13, Try.ntmps13
  go_wp2_with fail
  refine (H_hc.out).mono ?_
  rintro e w1 ⟨B, d, rfl, ho, hb1⟩
  have hi1 := ho.ints
  have hs1 := hb1.size
  have hH : (X.length : Int) / 65536 :: (X.length : Int) / 256 :: (X.length : Int) % 256 :: X = hdB X.length ++ X := by
    simp only [hdB, List.cons_append, List.nil_append, List.cons.injEq, true_and, and_true]; omega
  have H_ho := Lib.hid ho; clear ho; have H_hi1 := Lib.hid hi1; clear hi1; have H_hb1 := Lib.hid hb1; clear hb1; have H_hH := Lib.hid hH; clear hH
  go_wp2_with (at_builtin; refine wp_app_ints _ rfl (.tmp 26) (.tmp 27) _ rfl w.heap.size 5 i0 _ 1 Try.underlying23 hi hz0 hz1 hz2 rfl .u8 (some ⟨w1.heap.size, 0, none⟩) 3 [(X.length : Int) / 65536, (X.length : Int) / 256, (X.length : Int) % 256] rfl (own_lit [(X.length : Int) / 65536, (X.length : Int) / 256, (X.length : Int) % 256] hs1 (by simp) _ rfl) B d X rfl (H_hi1.out.alloc _) ?_ ?_ ?_ ?_)
  · simp; omega
  · simp; omega
  · simp; omega
  intro B2 d2 w2 ho2 hg2 hB2
  have hb2 : Below w.heap.size w w2 := (own_lit [(X.length : Int) / 65536, (X.length : Int) / 256, (X.length : Int) % 256] hs1 (by simp) _ rfl).grow (H_hb1.out.alloc hs1 _) hg2
  rw [H_hH.out] at ho2
  have hlY : (hdB X.length ++ X).length = X.length + 1 + 1 + 1 := by simp [hdB]
  have hbY : ∀ x ∈ hdB X.length ++ X, 0 ≤ x ∧ x ≤ 255 := fun x hx => by
    rcases List.mem_append.1 hx with h | h
    · exact hdB_bytes _ (by omega) x h
    · exact H_hpb.out x h
  have hfr2 := H_hfr.out
  generalize hdB X.length ++ X = Y at *
  have hcs := sum_any B2 d2 Y w2 ho2.ints (by rw [hlY]; omega) (bytes_getD hbY) _ rfl
  rw [hlY] at hcs
  have hs2 := hb2.size
  generalize hD : sumB 14695981039346656037 Y = D at *
  have H_ho2 := Lib.hid ho2; clear ho2; have H_hg2 := Lib.hid hg2; clear hg2; have H_hB2 := Lib.hid hB2; clear hB2; have H_hb2 := Lib.hid hb2; clear hb2; have H_hlY := Lib.hid hlY; clear hlY; have H_hbY := Lib.hid hbY; clear hbY; have H_hfr2 := Lib.hid hfr2; clear hfr2; have H_hcs := Lib.hid hcs; clear hcs; have H_hD := Lib.hid hD; clear hD
  go_wp2_with fail
  refine (H_hcs.out).mono ?_
  rintro e w3 ⟨rfl, hb3⟩
  have ho3 := H_ho2.out.below hb3
  have hb3' : Below w.heap.size w w3 := H_hb2.out.trans (hb3.mono hs2)
  have hs3 := hb3'.size
  have hlit := ints_lit (w := w3) (E := 48) (k := .u8) (be8 D) w3.heap.size rfl
  rw [be8_eq] at hlit
  have H_hb3 := Lib.hid hb3; clear hb3; have H_ho3 := Lib.hid ho3; clear ho3; have H_hb3' := Lib.hid hb3'; clear hb3'; have H_hlit := Lib.hid hlit; clear hlit
  go_wp2_with (at_builtin; refine wp_app_at _ rfl (.tmp 31) (.tmp 32) _ rfl w.heap.size 5 i0 _ 1 Try.underlying23 hi hz0 hz1 hz2 rfl .u8 B2 d2 _ Y H_hlY.out rfl (H_ho3.out.alloc _) (some ⟨w3.heap.size, 0, none⟩) 8 8 [b8 D 0, b8 D 1, b8 D 2, b8 D 3, b8 D 4, b8 D 5, b8 D 6, b8 D 7] rfl rfl H_hlit.out ?_ ?_ ?_ ?_)
  · omega
  · omega
  · simp; omega
  intro B4 d4 w4 ho4 hg4 hB4
  have hb4 : Below w.heap.size w w4 := (H_ho3.out.alloc _).grow (H_hb3'.out.alloc hs3 _) hg4
  rw [← be8_eq, ← H_hfr2.out] at ho4
  have hlF : (frameB l).length = X.length + 1 + 1 + 1 + 8 := by rw [H_hfr2.out, List.length_append, H_hlY.out]; rfl
  have H_ho4 := Lib.hid ho4; clear ho4; have H_hg4 := Lib.hid hg4; clear hg4; have H_hB4 := Lib.hid hB4; clear hB4; have H_hb4 := Lib.hid hb4; clear hb4; have H_hlF := Lib.hid hlF; clear hlF
  go_wp2_with fail
  go_ret2
  exact ⟨B4, d4, ret_slice_err (by rw [H_hlF.out]), H_ho4.out, H_hb4.out⟩
end Go.Proofs.Ytopdgjpoknndmaa
