/- An argument that is a row of instructions, opened. -/
import Derived.Test.YtekepfpkihnodaaCode
import Derived.Test.YtekepfpkihnodaaOpen
set_option linter.unusedVariables false
namespace Go.Proofs.Ytekepfpkihnodaa
open Go.RowKit Go.ChangeShapes Go.WideShapes Go.Deep
section
variable {H : Type} {ec : TypeId × Value → H} {w : World} {base : Nat} {spare : Nat → Bool} {held : Bool}
theorem ins_of_trod {fuel : Nat} {cs : List Value} {x : DataW H × List MemPlace} (h : DataW.trod ec Try.prog w base spare held fuel 27 cs = some x) : ∃ f : Ins, True ∧ cs = f.cells := by
  obtain ⟨xs, n, _, _, hl, hxl, hf⟩ := DataW.trod_struct Try.underlying27 h
  have h3 : (Try.prog).cellsOf 27 = 3 := by kernel_rfl
  have h1 : (Try.prog).cellsOf 3 = 1 := by kernel_rfl
  rw [h3] at hl
  have hx3 : xs.length = 3 := hxl
  have a0 : DataW.trod ec Try.prog w base spare held n 3 ((cs.drop 0).take ((Try.prog).cellsOf 3)) = xs[0]? := hf 0 _ rfl
  have a1 : DataW.trod ec Try.prog w base spare held n 3 ((cs.drop 1).take ((Try.prog).cellsOf 3)) = xs[1]? := hf 1 _ rfl
  have a2 : DataW.trod ec Try.prog w base spare held n 3 ((cs.drop 2).take ((Try.prog).cellsOf 3)) = xs[2]? := hf 2 _ rfl
  rw [h1, List.getElem?_eq_getElem (by omega)] at a0 a1 a2
  obtain ⟨o, e0, _, _⟩ := DataW.trod_int (k := .i64) Try.underlying3 a0
  obtain ⟨a, e1, _, _⟩ := DataW.trod_int (k := .i64) Try.underlying3 a1
  obtain ⟨b, e2, _, _⟩ := DataW.trod_int (k := .i64) Try.underlying3 a2
  refine ⟨⟨o, a, b⟩, trivial, ?_⟩
  match cs, hl with
  | [c0, c1, c2], _ =>
    simp at e0 e1 e2
    rw [e0, e1, e2]; rfl
theorem open_ins {v : Value} {r : Reach} {b0 : Nat} {d : DataW H} {p : List MemPlace} (hv : Value.okWide Try.prog w r b0 28 v) (h : DataW.Trod ec Try.prog w base spare held 28 v d p) : ∃ A n c fs, v = .slice A n c ∧ RowOf (fun _ => True) Ins.cells w A n c fs :=
  open_rows Try.underlying28 (by kernel_rfl) (by decide) (fun f _ => Ins.len f) (fun _ _ _ h => ins_of_trod h) hv h
end
end Go.Proofs.Ytekepfpkihnodaa
