/- Frames: what the laws lean on, in plain Lean. -/
import Derived.Test.YtekepfpkihnodaaFrame
set_option linter.unusedVariables false
namespace Go.Proofs.Ytekepfpkihnodaa
open Go.RowKit
theorem code_at {l : List Ins} {A : Option Addr} {n c : Nat} {Lc Lp Lr : List Ent} {w0 w : World} {S : List Nat} (hrow : Row 27 3 (.slice A n c) (icells l) Lc) (h0 : 0 < l.length) (hst : St w0 S w (Lp ++ Lr)) (hm : ∀ p ∈ Lc, p ∈ Lr) : ∃ bc, A = some ⟨bc, 0, none⟩ ∧ CellsAt w bc 0 (icells l) ∧ bc ∉ keys Lp := by
  obtain ⟨A2, m2, c2, e1, e2, e3, h4⟩ := hrow.reads hst (fun p hp => List.mem_append_right _ (hm p hp))
  cases e1
  rcases h4 with ⟨rfl, h5⟩ | ⟨b, rfl, hc⟩
  · have := ecells_len Ins.len l; unfold icells at h5; rw [h5] at this; simp at this; omega
  · refine ⟨b, rfl, hc, ?_⟩
    cases hrow with
    | blk b m cp xs junk h1 h2 h3 => exact hst.not_left (hm _ List.mem_cons_self)
def rowA : List Ins := [⟨2, 0, 0⟩, ⟨3, 0, 0⟩, ⟨5, 0, 0⟩, ⟨4, 0, 0⟩, ⟨3, 0, 0⟩, ⟨11, 0, 0⟩]
def rowS : List Ins := [⟨2, 0, 0⟩, ⟨3, 0, 0⟩, ⟨5, 0, 0⟩, ⟨2, 0, 0⟩, ⟨6, 0, 0⟩, ⟨5, 0, 0⟩, ⟨11, 0, 0⟩]
theorem rowA_valid : Valid rowA 8 := valid_iff.1 (by decide +kernel)
theorem rowS_valid : Valid rowS 8 := valid_iff.1 (by decide +kernel)
theorem rowA_next : nextP rowA 5 0 2 ⟨0, [], false, false⟩ = (⟨1, 0, 0, 7, 0⟩, 7, ⟨5, [], false, true⟩) := by decide +kernel
theorem rowS_next (a b : Int) : nextP rowS a 0 b ⟨0, [], false, false⟩ = (⟨1, 0, 0, w64 (w64 (a + b) + w64 (0 - a)), 0⟩, b, ⟨6, [], false, true⟩) := rfl
theorem w64_sum {a b : Int} (h : -9223372036854775808 ≤ b ∧ b ≤ 9223372036854775807) : w64 (w64 (a + b) + w64 (0 - a)) = b := by
  simp only [w64, IntKind.wrap, IntKind.signed, IntKind.bits]
  simp
  omega
/-- A row of one's own that may be written over. -/
def Over (A : Option Addr) (n : Nat) (Li : List Ent) : Prop := 0 < n → ∃ bi cs, A = some ⟨bi, 0, none⟩ ∧ Li = [(bi, cel 27 cs)] ∧ n * 3 ≤ cs.length
theorem Over.start {l : List Ins} {A : Option Addr} {c : Nat} {Lr : List Ent} (h : Row 27 3 (.slice A l.length c) (icells l) Lr) : Over A l.length Lr := by
  intro h0
  obtain ⟨b, junk, rfl, rfl⟩ := h.open h0
  exact ⟨b, _, rfl, rfl, by have := ecells_len Ins.len l; unfold icells; rw [List.length_append, this]; omega⟩
end Go.Proofs.Ytekepfpkihnodaa
