/- Statements' helpers: grown. -/
import Derived.Test.YtmbmejclnagffaaDoorM45
set_option linter.unusedSimpArgs false
set_option linter.unusedVariables false
set_option maxRecDepth 100000
namespace Go.Proofs.YtmbmejclnagffaaDoor
open Go.RowKit
/-- a journal that is right for a party and the public element of a secret -/
structure Jok (ms : List Msg) (h : Hd) (party sec : Int) : Prop where
  frm : frmB ms h party = true
  sgd : sgdB ms h party (pubV sec) = true
  fit : HFit h
  last : lastT ms ≤ 65535 * (ms.length : Int)
theorem Jok.nil (party sec : Int) : Jok [] hd0 party sec := ⟨rfl, rfl, fit0, by decide⟩
theorem lastT_snoc (ms : List Msg) (m : Msg) : lastT (ms ++ [m]) = m.t := by simp [lastT]
theorem Jok.put {ms : List Msg} {h : Hd} {party sec : Int} {x : Ent} (hj : Jok ms h party sec) (hp : ptyB party = true) (hs : wthB sec 1 = true) (hx : EFit x) (hn : ms.length ≤ 100) (B : Option Addr) (k : Nat) :
    Jok (ms ++ [putM ms party x B k]) (apH (ms ++ [putM ms party x B k]) party sec (7 + (ms.length : Int))) party sec := by
  have hE := put_E hj.frm hp hs hx hn (by have := hj.last; omega)
  have hpi := ptyB_iff.1 hp
  refine ⟨ap_frm hE B k, ap_sgd hE B k, apH_fit (by omega) (by simp; omega), ?_⟩
  rw [lastT_snoc, List.length_append]
  show x.t + lastT ms ≤ _
  have := hj.last
  have := hx.t
  simp only [List.length_singleton]
  omega
/-- the messages lie outside of some blocks -/
def Clear (lo hi : Nat) (A : Option Addr) (l : List Msg) : Prop := (∀ b off, l ≠ [] → A = some ⟨b, off, none⟩ → b < lo ∨ hi ≤ b) ∧ ∀ m ∈ l, ∀ b off, m.a ≠ [] → m.A = some ⟨b, off, none⟩ → b < lo ∨ hi ≤ b
theorem Clear.put {lo hi : Nat} {A X : Option Addr} {l : List Msg} {m : Msg} (h : Clear lo hi A l) (hX : ∀ b off, X = some ⟨b, off, none⟩ → hi ≤ b) (hm : ∀ b off, m.a ≠ [] → m.A = some ⟨b, off, none⟩ → hi ≤ b) : Clear lo hi X (l ++ [m]) :=
  ⟨fun b off _ e => .inr (hX b off e), fun y hy b off h1 h2 => by
    rcases List.mem_append.1 hy with hy | hy
    · exact h.2 y hy b off h1 h2
    · rw [List.mem_singleton] at hy; subst hy; exact .inr (hm b off h1 h2)⟩
theorem Clear.mem {lo hi : Nat} {A : Option Addr} {l : List Msg} (h : Clear lo hi A l) {r : Nat} (hr : lo ≤ r ∧ r < hi) : (∀ b' off, l ≠ [] → A = some ⟨b', off, none⟩ → b' ≠ r) ∧ ∀ m ∈ l, ∀ b' off, m.a ≠ [] → m.A = some ⟨b', off, none⟩ → b' ≠ r :=
  ⟨fun b off h1 h2 => by rcases h.1 b off h1 h2 with h3 | h3 <;> omega, fun m hm b off h1 h2 => by rcases h.2 m hm b off h1 h2 with h3 | h3 <;> omega⟩
end Go.Proofs.YtmbmejclnagffaaDoor
