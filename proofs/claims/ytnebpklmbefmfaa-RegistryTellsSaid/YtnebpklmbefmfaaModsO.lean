/- Arguments that are rows of modules, or of acts, opened. -/
import Derived.Test.YtnebpklmbefmfaaModO
import Derived.Test.YtnebpklmbefmfaaNew
set_option linter.unusedVariables false
set_option linter.unusedSimpArgs false
set_option maxRecDepth 20000
namespace Go.Proofs.Ytnebpklmbefmfaa
open Go.RowKit Go.ChangeShapes Go.WideShapes Go.Deep
section
variable {H : Type} {ec : TypeId × Value → H} {w : World} {base : Nat} {spare : Nat → Bool} {held : Bool}
def MdAt (w : World) (p : Option Addr × Nat × List Cl) : Prop := ModR w p.2.2 p.1 ∧ ∀ c ∈ p.2.2, ClB c
theorem module_of_trod {fuel : Nat} {cs : List Value} {x : DataW H × List MemPlace} (h : DataW.trod ec Try.prog w base spare held fuel 30 cs = some x) : ∃ p : Option Addr × Nat × List Cl, MdAt w p ∧ cs = [.slice p.1 p.2.2.length p.2.1] := by
  obtain ⟨xs, n, _, _, hl, hxl, hf⟩ := DataW.trod_struct Try.underlying30 h
  have h1 : (Try.prog).cellsOf 30 = 1 := by kernel_rfl
  have h2 : (Try.prog).cellsOf 28 = 1 := by kernel_rfl
  rw [h1] at hl
  have a0 : DataW.trod ec Try.prog w base spare held n 28 ((cs.drop 0).take ((Try.prog).cellsOf 28)) = xs[0]? := hf 0 _ rfl
  have hx1 : xs.length = 1 := hxl
  rw [h2, List.getElem?_eq_getElem (by omega)] at a0
  obtain ⟨A, k, c, ps, e, g1, g2, g3, g4, g5⟩ := open_rowsC (OK := ClsAt w) (enc := fun p => p.2) Try.underlying28 (by kernel_rfl) (by decide) (fun f hf => hf.1.len) (fun _ _ _ h => class_of_trod h) a0
  subst g1
  refine ⟨(A, c, ps.map (fun p : Cl × List Value => p.1)), ⟨⟨ps.map (fun p : Cl × List Value => p.2), by simp, g5, fun i cl hi => ?_⟩, fun cl hcl => ?_⟩, ?_⟩
  · rw [List.getElem?_map] at hi
    cases hp : ps[i]? with
    | none => rw [hp] at hi; cases hi
    | some p =>
      rw [hp] at hi
      simp only [Option.map_some, Option.some.injEq] at hi
      subst hi
      exact ⟨p.2, by rw [List.getElem?_map, hp]; rfl, (g4 p (List.mem_of_getElem? hp)).1⟩
  · obtain ⟨p, hp, rfl⟩ := List.mem_map.1 hcl
    exact (g4 p hp).2
  · rw [List.drop_zero, List.take_of_length_le (by omega)] at e
    simp only [List.length_map]
    exact e
theorem open_mods {v : Value} {r : Reach} {b0 : Nat} {d : DataW H} {p : List MemPlace} (hv : Value.okWide Try.prog w r b0 32 v) (h : DataW.Trod ec Try.prog w base spare held 32 v d p) : ∃ A n, ∃ ms : List (List Cl), v = .slice A ms.length n ∧ ModsR w ms A ∧ MsB ms := by
  obtain ⟨A, n, c, ps, rfl, h1, h2, h3, h4, h5⟩ := open_rows (OK := MdAt w) (enc := fun p : Option Addr × Nat × List Cl => [Value.slice p.1 p.2.2.length p.2.1]) Try.underlying32 (by kernel_rfl) (by decide) (fun _ _ => rfl) (fun _ _ _ h => module_of_trod h) hv h
  subst h1
  refine ⟨A, c, ps.map (fun p => p.2.2), by rw [List.length_map], ⟨ps.map (fun p => Value.slice p.1 p.2.2.length p.2.1), by rw [← ecells_1 (fun p : Option Addr × Nat × List Cl => Value.slice p.1 p.2.2.length p.2.1) ps]; exact h5, by simp, fun i m hm => ?_⟩, fun m hm c hc => ?_⟩
  · rw [List.getElem?_map] at hm
    cases hp : ps[i]? with
    | none => rw [hp] at hm; cases hm
    | some p =>
      rw [hp] at hm
      simp only [Option.map_some, Option.some.injEq] at hm
      subst hm
      exact ⟨p.1, p.2.1, by rw [List.getElem?_map, hp]; rfl, (h4 p (List.mem_of_getElem? hp)).1⟩
  · obtain ⟨p, hp, rfl⟩ := List.mem_map.1 hm
    exact (h4 p hp).2 c hc
end
end Go.Proofs.Ytnebpklmbefmfaa
