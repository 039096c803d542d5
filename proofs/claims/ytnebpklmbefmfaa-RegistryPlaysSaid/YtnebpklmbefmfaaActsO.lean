/- An argument that is a row of acts, opened. -/
import Derived.Test.YtnebpklmbefmfaaModO
import Derived.Test.YtnebpklmbefmfaaActs
set_option linter.unusedVariables false
set_option linter.unusedSimpArgs false
set_option maxRecDepth 20000
namespace Go.Proofs.Ytnebpklmbefmfaa
open Go.RowKit Go.ChangeShapes Go.WideShapes Go.Deep
section
variable {H : Type} {ec : TypeId × Value → H} {w : World} {base : Nat} {spare : Nat → Bool} {held : Bool}
theorem act_of_trod {fuel : Nat} {cs : List Value} {x : DataW H × List MemPlace} (h : DataW.trod ec Try.prog w base spare held fuel 36 cs = some x) : ∃ f : Ac, True ∧ cs = f.cells := by
  obtain ⟨xs, n, _, _, hl, hxl, hf⟩ := DataW.trod_struct Try.underlying36 h
  have h4 : (Try.prog).cellsOf 36 = 4 := by kernel_rfl
  have h1 : (Try.prog).cellsOf 3 = 1 := by kernel_rfl
  have h2 : (Try.prog).cellsOf 4 = 1 := by kernel_rfl
  rw [h4] at hl
  have hx4 : xs.length = 4 := hxl
  have a0 : DataW.trod ec Try.prog w base spare held n 3 ((cs.drop 0).take ((Try.prog).cellsOf 3)) = xs[0]? := hf 0 _ rfl
  have a1 : DataW.trod ec Try.prog w base spare held n 3 ((cs.drop 1).take ((Try.prog).cellsOf 3)) = xs[1]? := hf 1 _ rfl
  have a2 : DataW.trod ec Try.prog w base spare held n 3 ((cs.drop 2).take ((Try.prog).cellsOf 3)) = xs[2]? := hf 2 _ rfl
  have a3 : DataW.trod ec Try.prog w base spare held n 4 ((cs.drop 3).take ((Try.prog).cellsOf 4)) = xs[3]? := hf 3 _ rfl
  rw [h1, List.getElem?_eq_getElem (by omega)] at a0 a1 a2
  rw [h2, List.getElem?_eq_getElem (by omega)] at a3
  obtain ⟨o, e0, _, _⟩ := DataW.trod_int (k := .i64) Try.underlying3 a0
  obtain ⟨a, e1, _, _⟩ := DataW.trod_int (k := .i64) Try.underlying3 a1
  obtain ⟨b, e2, _, _⟩ := DataW.trod_int (k := .i64) Try.underlying3 a2
  obtain ⟨u, e3, _⟩ := DataW.trod_bool Try.underlying4 a3
  refine ⟨⟨o, a, b, u⟩, trivial, ?_⟩
  match cs, hl with
  | [c0, c1, c2, c3], _ =>
    simp at e0 e1 e2 e3
    rw [e0, e1, e2, e3]; rfl
theorem open_acts {v : Value} {r : Reach} {b0 : Nat} {d : DataW H} {p : List MemPlace} (hv : Value.okWide Try.prog w r b0 22 v) (h : DataW.Trod ec Try.prog w base spare held 22 v d p) : ∃ A n, ∃ l : List Ac, v = .slice A l.length n ∧ Rd w A (ecells Ac.cells l) := by
  obtain ⟨A, n, c, fs, rfl, h1, h2, h3, h4, h5⟩ := open_rows (OK := fun _ => True) (enc := Ac.cells) Try.underlying22 (by kernel_rfl) (by decide) (fun f _ => Ac.len f) (fun _ _ _ h => act_of_trod h) hv h
  subst h1
  exact ⟨A, c, fs, rfl, h5⟩
end
end Go.Proofs.Ytnebpklmbefmfaa
