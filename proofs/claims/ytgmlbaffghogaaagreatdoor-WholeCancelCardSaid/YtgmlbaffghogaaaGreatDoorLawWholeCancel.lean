/- WholeCancel: for every input, without conditions, the law returns true and the input reads as it did; the tied card: what its row lists is tied to the program's text by the given tie. -/
import Derived.Test.YtgmlbaffghogaaaGreatDoorCanLd
import Derived.Test.YtgmlbaffghogaaaGreatDoorCards
import Derived.Test.YtgmlbaffghogaaaGreatDoorTie
import Derived.SevenTiedAt
set_option linter.unusedVariables false
namespace Go.Proofs.YtgmlbaffghogaaaGreatDoor
open Go
theorem no_goes : Tryz.prog.funcs.toList.any Func.goes = false := by kernel_rfl
theorem any_none (l : List FuncId) : l.any (fun g => (Tryz.prog.funcs[g]?).any Func.goes) = false := by
  rw [List.any_eq_false]
  intro g _ h
  cases hg : Tryz.prog.funcs[g]? with
  | none => rw [hg] at h; exact Bool.noConfusion h
  | some fn =>
    rw [hg] at h
    have h1 := List.any_eq_false.1 no_goes fn (Array.mem_toList_iff.2 (Array.mem_of_getElem? hg))
    exact h1 h
theorem goes_f (f : FuncId) : Tryz.prog.goes f = false := by
  unfold Program.goes
  rw [any_none, Bool.false_or]
  have : Tryz.prog.funcs.any Func.goes = false := by
    rw [← Array.any_toList]; exact no_goes
  rw [this, Bool.and_false]
theorem any_of {p : FuncId → Bool} (h : ∀ f, p f = false) : ∀ o : Option FuncId, o.any p = false
  | none => rfl
  | some f => h f
theorem goes_any (o : Option FuncId) : o.any Tryz.prog.goes = false := any_of goes_f o
theorem prog_eq : Tryz.pinned.checked.prog = Tryz.prog := rfl
theorem start_row : Rows.wholeCancelRow.start = .entering := rfl
theorem goes_at (P : Program) (c : OpenClaim) (hs : c.start = .entering) (h : ∀ o : Option FuncId, o.any P.goes = false) : false = c.goesBy P := by
  unfold OpenClaim.goesBy Program.goesAt Program.goesFrom
  rw [h, hs]
  rfl
theorem goes_row : false = Rows.wholeCancelRow.goesBy Tryz.pinned.checked.prog := goes_at _ _ start_row (prog_eq ▸ goes_any)
theorem card_of_row (h : Rows.WholeCancelSaid) : Rows.WholeCancelCardSaid :=
  Claim7.holds_tied_plain_at .later [] [.data, .data, .data] true (true, "a1893e7ef04d028d8eb74452c880cb23c1da680a22b5f6f45b7c6dd413243187") true
    h (fun _ h => by cases h) (by kernel_rfl) (fun _ h => by cases h) wholeCancel_row_tie rfl ⟨rfl, rfl⟩ (by kernel_rfl) rfl
    (fun f fn hf hfn => by
      obtain rfl : f = 3 := Option.some.inj ((show Tryz.prog.funcNamed "tenon/tenontop.WholeCancel" = some 3 by kernel_rfl).symm.trans hf) |>.symm
      obtain rfl : fn = Tryz.f3 := (Option.some.inj ((show Tryz.prog.funcs[3]? = some Tryz.f3 by kernel_rfl).symm.trans hfn)).symm
      exact ⟨by kernel_rfl, fun j t ht => by
        have h3 : t ∈ Tryz.f3.params := Array.mem_of_getElem? ht
        have h4 : Tryz.f3.params.toList.all (fun t => !Tryz.prog.wantsStandIn t) = true := by kernel_rfl
        have h5 := List.all_eq_true.1 h4 t (Array.mem_toList_iff.2 h3)
        show Tryz.prog.wantsStandIn t = false
        simpa using h5⟩)
    goes_row
/-- The card. -/
theorem wholeCancel_holds : Rows.WholeCancelCardSaid := card_of_row wholeCancel.over
#print axioms wholeCancel_holds
end Go.Proofs.YtgmlbaffghogaaaGreatDoor
