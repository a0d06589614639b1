/- Money in plain Lean and in memory: the values of the head's examples; rows of exchanges. -/
import Derived.Test.YtaloadadecoogaaDoorMnV
import Derived.Test.YtaloadadecoogaaDoorGen
import Derived.Lib.SlBytesConst
namespace Go.Proofs.YtaloadadecoogaaDoor
set_option linter.unusedSimpArgs false
set_option linter.unusedVariables false
set_option maxRecDepth 100000
open Go.RowKit Go.Maps

def x12 : Exc := ⟨1, 2, 1, 100⟩
theorem x12_fit : XFit x12 := ⟨by decide, by decide, by decide, by decide⟩
theorem rat1 : ratB 1 100 = true := by decide
theorem ex12 : excB x12 = true := by decide
theorem tab12 : tabB [x12] = true := by simp [tabB, ex12, keyX]
theorem tab22 : tabB [x12, x12] = false := by simp [tabB, ex12, keyX]
theorem fnd12 : fndX [x12] 1 2 = some x12 := by simp [fndX, x12]
theorem fnd21 : fndX [x12] 2 1 = none := by simp [fndX, x12]
theorem cv1 : cvE [x12] 250 1 2 = 0 ∧ cvM [x12] 250 1 2 = 2 ∧ cvC [x12] 250 1 2 = 2 := by
  have e : cvE [x12] 250 1 2 = 0 := by
    rw [cvE, if_pos ⟨tab12, by decide, by decide, by decide⟩, if_neg (by decide), fnd12]; decide
  exact ⟨e, by rw [cvM, if_pos e, if_neg (by decide), fnd12]; decide, by rw [cvC, if_pos e]⟩
theorem cv2 : cvE [x12] 250 2 2 = 0 ∧ cvM [x12] 250 2 2 = 250 ∧ cvC [x12] 250 2 2 = 2 := by
  have e : cvE [x12] 250 2 2 = 0 := by
    rw [cvE, if_pos ⟨tab12, by decide, by decide, by decide⟩, if_pos rfl]
  exact ⟨e, by rw [cvM, if_pos e, if_pos rfl], by rw [cvC, if_pos e]⟩
theorem cv3 : cvE [x12] 250 2 1 = 4 ∧ cvM [x12] 250 2 1 = 0 ∧ cvC [x12] 250 2 1 = 0 := by
  have e : cvE [x12] 250 2 1 = 4 := by
    rw [cvE, if_pos ⟨tab12, by decide, by decide, by decide⟩, if_neg (by decide), fnd21]
  exact ⟨e, cv_err (by rw [e]; decide)⟩
theorem sh1 : shE 100 [1, 1, 1] = 0 ∧ shV 100 [1, 1, 1] = [33, 33, 34] := by decide
theorem sh2 : shE 100 [0, 0] = 1 ∧ shV 100 [0, 0] = [] := by decide
theorem dd0 : Lib.decDigits 0 = [48] := by rw [Lib.decDigits, dif_pos (by omega)]; rfl
theorem dd1 : Lib.decDigits 1 = [49] := by rw [Lib.decDigits, dif_pos (by omega)]; rfl
theorem dd12 : Lib.decDigits 12 = [49, 50] := by rw [Lib.decDigits, dif_neg (by omega), show 12 / 10 = 1 from rfl, dd1]; rfl
theorem mS1205 : mS 1205 = ⟨#[49, 50, 46, 48, 53]⟩ := by rw [mS, mT, show (1205 : Int).natAbs / 100 = 12 from rfl, dd12]; rfl
theorem mS_50 : mS (-50) = ⟨#[45, 48, 46, 53, 48]⟩ := by rw [mS, mT, show (-50 : Int).natAbs / 100 = 0 from rfl, dd0]; rfl
theorem mS0 : mS 0 = ⟨#[48, 46, 48, 48]⟩ := by rw [mS, mT, show (0 : Int).natAbs / 100 = 0 from rfl, dd0]; rfl
theorem mS100 : mS 100 = ⟨#[49, 46, 48, 48]⟩ := by rw [mS, mT, show (100 : Int).natAbs / 100 = 1 from rfl, dd1]; rfl
theorem tx1 : tE 1205 = 0 ∧ tS 1205 = ⟨#[49, 50, 46, 48, 53]⟩ := ⟨by decide, by rw [tS, if_pos (by decide), mS1205]⟩
theorem tx2 : tE (-50) = 0 ∧ tS (-50) = ⟨#[45, 48, 46, 53, 48]⟩ := ⟨by decide, by rw [tS, if_pos (by decide), mS_50]⟩
theorem pn1 : psN ⟨#[45, 48, 46, 53, 48]⟩ = -50 := by decide
theorem pn2 : psN ⟨#[45, 48, 46, 48, 48]⟩ = 0 := by decide
theorem pn3 : psN ⟨#[48, 49, 46, 48, 48]⟩ = 100 := by decide
theorem ps1 : psE ⟨#[45, 48, 46, 53, 48]⟩ = 0 ∧ psR ⟨#[45, 48, 46, 53, 48]⟩ = -50 := by
  rw [psE, psR, pn1, mS_50]; exact ⟨if_pos ⟨by decide, rfl⟩, if_pos ⟨by decide, rfl⟩⟩
theorem bytes_ne {a b : Array UInt8} (h : a ≠ b) : ByteArray.mk a ≠ ByteArray.mk b := fun e => h (by injection e)
theorem ps2 : psE ⟨#[45, 48, 46, 48, 48]⟩ = 7 ∧ psR ⟨#[45, 48, 46, 48, 48]⟩ = 0 := by
  rw [psE, psR, pn2, mS0]; exact ⟨if_neg fun h => bytes_ne (by decide) h.2, if_neg fun h => bytes_ne (by decide) h.2⟩
theorem ps3 : psE ⟨#[48, 49, 46, 48, 48]⟩ = 7 ∧ psR ⟨#[48, 49, 46, 48, 48]⟩ = 0 := by
  rw [psE, psR, pn3, mS100]; exact ⟨if_neg fun h => bytes_ne (by decide) h.2, if_neg fun h => bytes_ne (by decide) h.2⟩

theorem Exc.cells_len (x : Exc) : x.cells.length = 4 := rfl
theorem Exc.cells_one (x : Exc) : ∀ u ∈ x.cells, u.oneCell' = true := by
  intro u hu
  simp only [Exc.cells, List.mem_cons, List.not_mem_nil, or_false] at hu
  rcases hu with rfl | rfl | rfl | rfl <;> rfl
theorem infoExc : (Tryd.prog.info? 53).map (fun i => (i.zero, i.size, i.bytes)) = some (some (.agg #[.int .i64 0, .int .i64 0, .int .i64 0, .int .i64 0]), 4, 32) := by kernel_rfl
def OwnX (w : World) (base : Nat) (A : Option Addr) (c : Nat) (l : List Exc) : Prop := OwnRows 53 4 Exc.cells w base A c l
theorem OwnX.excs {w : World} {base : Nat} {A : Option Addr} {c : Nat} {l : List Exc} (h : OwnX w base A c l) (hf : ∀ c ∈ l, XFit c) : Excs w A l := OwnRows.rows h Exc.cells_len fun z hz => ⟨rfl, hf z hz⟩
theorem ownX_lit {w : World} {base : Nat} (l : List Exc) (hb : base ≤ w.heap.size) (hl : l.length ≤ 1000) {vs : Array Value} (hv : vs.toList = l.flatMap Exc.cells) {n : Nat} (hn : w.heap.size = n) : OwnX (w.alloc (.cells vs 53)) base (some ⟨n, 0, none⟩) l.length l := by
  subst hn
  have hs : vs.size = l.length * 4 := by rw [← Array.length_toList, hv, flat_len Exc.cells_len]
  have := World.ownsRow_lit (base := base) (e := 53) (size := 4) w vs l.length hb (by unfold maxLen; omega) hs
  rw [hv] at this; exact this
theorem run_app_x (w : World) (base : Nat) (A B : Option Addr) (c cc n m : Nat) (p q : List Exc) (hp : p.length = n) (hq : q.length = m) (hown : OwnX w base A c p) (hr : Excs w B q) (h63 : n + m ≤ 1000) (hbase : base ≤ w.heap.size) :
    ∃ A' c' w', (Builtin.append_ #[22, 22] 22 #[.slice A n c, .slice B m cc]).run Tryd.prog w = .ok (.slice A' (n + m) c') w' ∧ OwnX w' base A' c' (p ++ q) ∧ w.grownBy w' (blockOf A) := by
  obtain ⟨i0, hi, hz0, hz1, hz2⟩ := info_parts infoExc
  subst hp hq
  obtain ⟨A', c', w', h1, h2, h3, _⟩ := run_app_gen (At := ExAt) w 22 22 i0 _ 32 Tryd.underlying22 hi hz0 hz1 hz2 rfl (by decide) Exc.cells_len Exc.cells_one (fun _ _ h => h.1) hown B cc q hr (by unfold maxLen; omega) (by omega) hbase
  rw [List.length_append] at h1
  exact ⟨A', c', w', h1, h2, h3⟩
theorem rsameb_any (A B : Option Addr) (c d n m : Nat) (l k : List Int) (hl0 : l.length = n) (hk0 : k.length = m) (w : World) (hl : IntsAt w A .i64 l) (hm : IntsAt w B .i64 k) (hn : n ≤ 1000000) (hn2 : m ≤ 1000000) :
    Calls Tryd.prog 16 #[.slice A n c, .slice B m d] w fun e w' => e = .returned (.bool (sameB l k)) ∧ Below w.heap.size w w' := by
  subst hl0 hk0
  refine (rsame_any A B c d l k w hl hm hn hn2).mono ?_
  rintro e w' ⟨rfl, q, rfl⟩
  exact ⟨rfl, below_drewN (Below.refl _ _) _⟩
end Go.Proofs.YtaloadadecoogaaDoor
