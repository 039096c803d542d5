/- Arguments that are numbers of 64 bits, or rows of them, opened. -/
import Derived.Test.YtekepfpkihnodaaFrame
import Derived.Test.YtekepfpkihnodaaOpen
set_option linter.unusedVariables false
namespace Go.Proofs.Ytekepfpkihnodaa
open Go.RowKit Go.ChangeShapes Go.WideShapes Go.Deep
theorem wf_i64 {n : Int} (h : (Lit.int .i64 n).wf = true) : -9223372036854775808 ≤ n ∧ n ≤ 9223372036854775807 := by
  simp [Lit.wf, IntKind.min, IntKind.max, IntKind.signed, IntKind.bits] at h
  omega
section
variable {H : Type} {ec : TypeId × Value → H} {w : World} {base : Nat} {spare : Nat → Bool} {held : Bool}
theorem long_of_trod {fuel : Nat} {cs : List Value} {x : DataW H × List MemPlace} (h : DataW.trod ec Try.prog w base spare held fuel 2 cs = some x) : ∃ f : Int, True ∧ cs = [.int .i64 f] := by
  obtain ⟨o, e0, _, _⟩ := DataW.trod_int (k := .i64) Try.underlying2 h
  exact ⟨o, trivial, e0⟩
theorem ecells_ints (xs : List Int) : ecells (fun x : Int => [Value.int .i64 x]) xs = ints xs := by
  induction xs with
  | nil => rfl
  | cons x xs ih => simp only [ecells, ints, List.map_cons, List.flatten_cons] at ih ⊢; rw [ih]; rfl
theorem open_longs {v : Value} {r : Reach} {b0 : Nat} {d : DataW H} {p : List MemPlace} (hv : Value.okWide Try.prog w r b0 35 v) (h : DataW.Trod ec Try.prog w base spare held 35 v d p) : ∃ A n c fs, v = .slice A n c ∧ RowOf (fun _ => True) (fun x : Int => [Value.int .i64 x]) w A n c fs :=
  open_rows (sz := 1) Try.underlying35 (by kernel_rfl) (by decide) (fun f _ => rfl) (fun _ _ _ h => long_of_trod h) hv h
end
end Go.Proofs.Ytekepfpkihnodaa
