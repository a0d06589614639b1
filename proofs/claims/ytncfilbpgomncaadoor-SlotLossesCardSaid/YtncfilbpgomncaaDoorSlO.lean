/- The contract of rising; opening courses of writes. -/
import Derived.Test.YtncfilbpgomncaaDoorSlN
import Derived.Test.YtncfilbpgomncaaDoorRow
namespace Go.Proofs.YtncfilbpgomncaaDoor
set_option linter.unusedSimpArgs false
set_option linter.unusedVariables false
set_option maxRecDepth 100000
open Go.RowKit Go.ChangeShapes Go.WideShapes Go.ChangeAt

/-- a list in new memory -/
def NewList (L : List Int) (w : World) (e : Ending) (w' : World) : Prop := ∃ A c, e = .returned (.slice A L.length c) ∧ OwnInts w' w.heap.size 3 .i64 A c L ∧ Below w.heap.size w w'
set_option maxHeartbeats 4000000 in
theorem rising_any (B : Option Addr) (cap n : Nat) (l : List Int) (hln : l.length = n) (w : World) (hl : IntsAt w B .u8 l) (hn : n ≤ 9223372036854775807) (hb : ∀ x ∈ l, 0 ≤ x ∧ x ≤ 255) :
    Calls Tryd.prog 43 #[.slice B n cap] w (NewList (rise l).1 w) := by
  obtain ⟨i0, hi, hz0, hz1, hz2⟩ := info_parts infoI64
  have hri := fun k => rinv_rise (l.take k) (fun x hx => hb x (List.mem_of_mem_take hx))
  have hbd := bytes_getD hb
  have H_hl := Lib.hid hl; clear hl; have H_hln := Lib.hid hln; clear hln; have H_hb := Lib.hid hb; clear hb; have H_hri := Lib.hid hri; clear hri; have H_hbd := Lib.hid hbd; clear hbd
  go_enter Tryd.func43, Tryd.ntmps43
  go_wp2_with fail
  go_loopw [3, 4, 9] (fun v d i wr => ∃ (k : Nat) (A : Option Addr) (c : Nat), k ≤ n ∧ i = .int .i64 k ∧ v = .slice A (rise (l.take k)).1.length c ∧ d = .int .i64 (rise (l.take k)).2 ∧ OwnInts wr w.heap.size 3 .i64 A c (rise (l.take k)).1 ∧ Below w.heap.size w wr) (fun _ _ i _ => n - (intOf i).toNat)
  case atStart => exact ⟨0, none, 0, by omega, rfl, rfl, rfl, OwnInts.nil _ _ _ _, Below.refl _ _⟩
  case round =>
    obtain ⟨k, A, c, hk, rfl, rfl, rfl, ho, hbw⟩ := hrel
    by_cases hlt : k < n
    · have g1 : (k : Int) < (n : Int) := by omega
      have g0 : (0 : Int) ≤ (k : Int) := by omega
      obtain ⟨b, off, rfl, hbl, hc⟩ := (H_hl.out.below hbw) k (by rw [H_hln.out]; exact hlt)
      have hs := rise_snoc l k (by rw [H_hln.out]; exact hlt)
      have hr := H_hri.out k
      have hx := H_hbd.out k
      have hx0 := hx.1; have hx1 := hx.2
      have hd0 := hr.lo; have hd1 := hr.hi; have hlen := hr.len
      have hsz := hbw.size
      generalize rise (l.take k) = st at *
      generalize l.getD k 0 = x at *
      obtain ⟨out, d⟩ := st
      dsimp only at *
      by_cases hgt : d < x
      · have hR : rise (l.take (k + 1)) = (out ++ [x], x) := by rw [hs, rs, if_pos hgt]
        generalize hm : out.length = m at *
        have H_ho := Lib.hid ho; clear ho; have H_hbw := Lib.hid hbw; clear hbw; have H_hs := Lib.hid hs; clear hs; have H_hr := Lib.hid hr; clear hr; have H_hx := Lib.hid hx; clear hx; have H_hR := Lib.hid hR; clear hR; have H_hm := Lib.hid hm; clear hm
        go_wp2_with (at_builtin; refine wp_app_at _ rfl (.tmp 19) (.tmp 21) _ rfl w.heap.size 3 i0 _ 8 Tryd.underlying24 hi hz0 hz1 hz2 rfl .i64 A c m out H_hm.out rfl (H_ho.out.alloc _) (some ⟨wr.heap.size, 0, none⟩) 1 1 [x] rfl rfl (ints_new1 wr .i64 x _ _ rfl) ?_ ?_ ?_ ?_)
        all_goals try omega
        all_goals try (simp; omega)
        intro A2 c2 w2 ho2 hg2 hB2
        have hb2 : Below w.heap.size w w2 := (H_ho.out.alloc _).grow (H_hbw.out.alloc hsz _) hg2
        have H_ho2 := Lib.hid ho2; clear ho2; have H_hg2 := Lib.hid hg2; clear hg2; have H_hB2 := Lib.hid hB2; clear hB2; have H_hb2 := Lib.hid hb2; clear hb2
        go_wp2_with fail
        go_roundw
        case rel => exact ⟨k + 1, A2, c2, by omega, by go_num, by rw [H_hR.out, List.length_append, H_hm.out]; rfl, by rw [H_hR.out], by rw [H_hR.out]; exact H_ho2.out, H_hb2.out⟩
        case measure => simp [intOf]; omega
      · have hR : rise (l.take (k + 1)) = (out, d) := by rw [hs, rs, if_neg hgt]
        have H_ho := Lib.hid ho; clear ho; have H_hbw := Lib.hid hbw; clear hbw; have H_hs := Lib.hid hs; clear hs; have H_hr := Lib.hid hr; clear hr; have H_hx := Lib.hid hx; clear hx; have H_hR := Lib.hid hR; clear hR
        go_wp2_with fail
        go_roundw
        case rel => exact ⟨k + 1, A, c, by omega, by go_num, by rw [H_hR.out], by rw [H_hR.out], by rw [H_hR.out]; exact H_ho.out, H_hbw.out⟩
        case measure => simp [intOf]; omega
    · have g1 : ¬ (k : Int) < (n : Int) := by omega
      have hall : l.take k = l := List.take_of_length_le (by rw [H_hln.out]; omega)
      rw [hall] at ho
      simp only [hall]
      have H_ho := Lib.hid ho; clear ho; have H_hbw := Lib.hid hbw; clear hbw; have H_hall := Lib.hid hall; clear hall
      go_wp2_with fail
      go_ret
      exact ⟨A, c, rfl, H_ho.out, H_hbw.out⟩

/-- a write: a counter, bytes, a moment -/
structure Dd where
  c : Int
  l : List Int
  a : Int
def DdAt (w : World) (cs : List Value) (d : Dd) : Prop :=
  ∃ B cap, cs = [.int .u16 d.c, .slice B d.l.length cap, .int .u8 d.a] ∧ IntsAt w B .u8 d.l ∧ d.l.length ≤ cap ∧ cap ≤ 9223372036854775807 ∧ (0 ≤ d.c ∧ d.c ≤ 65535) ∧ (0 ≤ d.a ∧ d.a ≤ 255) ∧ ∀ x ∈ d.l, 0 ≤ x ∧ x ≤ 255
theorem DdAt.below {w w' : World} (hb : Below w.heap.size w w') (cs : List Value) (d : Dd) (h : DdAt w cs d) : DdAt w' cs d := by
  obtain ⟨B, cap, e, hi, h1, h2, h3, h4, h5⟩ := h
  exact ⟨B, cap, e, hi.below hb, h1, h2, h3, h4, h5⟩
theorem read_deed {H : Type} {enc : TypeId × Value → H} {W : World} {held : Bool} (fuel : Nat) (cs : List Value) (x : DataW H × List MemPlace) (hl : cs.length = 3) (h : DataW.trod enc Tryd.prog W 0 (fun _ => true) held fuel 69 cs = some x) : ∃ z, DdAt W cs z := by
  obtain ⟨xs, n, _, _, _, hlen, hg⟩ := DataW.trod_struct Tryd.underlying69 h
  have hx : xs.length = 3 := hlen
  match xs, hx, cs, hl with
  | [y0, y1, y2], _, [c0, c1, c2], _ =>
    have e1 : Tryd.prog.cellsOf 66 = 1 := by kernel_rfl
    have e2 : Tryd.prog.cellsOf 67 = 1 := by kernel_rfl
    have e3 : Tryd.prog.cellsOf 5 = 1 := by kernel_rfl
    have g0 := hg 0 _ rfl
    have g1 := hg 1 _ rfl
    have g2 := hg 2 _ rfl
    simp [e1, e2, e3] at g0 g1 g2
    obtain ⟨c, rfl, wc⟩ := read_int Tryd.underlying66 g0
    obtain ⟨B, cap, l, rfl, hi, hc, hm, hw⟩ := read_ints Tryd.underlying67 Tryd.underlying5 (by kernel_rfl) g1
    obtain ⟨a, rfl, wa⟩ := read_int Tryd.underlying5 g2
    unfold maxLen at hm
    exact ⟨⟨c, l, a⟩, B, cap, rfl, hi, hc, hm, wf_u16 wc, wf_u8 wa, fun x hx => wf_u8 (hw x hx)⟩
theorem open_deeds {H : Type} {enc : TypeId × Value → H} {W : World} {base : Nat} {held : Bool} {v : Value} {d : DataW H} {p : List MemPlace} (hv : Value.okWide Tryd.prog W .any base 65 v) (h : DataW.Trod enc Tryd.prog W 0 (fun _ => true) held 65 v d p) :
    ∃ A c l, v = .slice A l.length c ∧ RowsAt 3 DdAt W A l ∧ l.length ≤ c ∧ c ≤ maxLen := by
  obtain ⟨a0, len, cap, rfl⟩ := okWide_slice Tryd.underlying65 hv
  obtain ⟨fuel, hf⟩ := h
  exact read_rows (by decide) Tryd.underlying65 (by kernel_rfl) read_deed hf
end Go.Proofs.YtncfilbpgomncaaDoor
