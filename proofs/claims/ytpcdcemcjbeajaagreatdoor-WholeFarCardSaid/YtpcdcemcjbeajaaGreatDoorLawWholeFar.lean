/- WholeFar: WlLd, LawWholeFar. -/
import Derived.Below
import Derived.ChangeOld
import Derived.LaidMore
import Derived.OpenShut
import Derived.ProofKit
import Derived.SevenTiedAt
import Derived.ShutString
import Derived.SizedLaws
import Derived.Stop.Joined
import Derived.Test.YtpcdcemcjbeajaaGreatDoorCards
import Derived.Test.YtpcdcemcjbeajaaGreatDoorTie
import Derived.Test.YtpcdcemcjbeajaaGreatDoorWf46
import Derived.Test.YtpcdcemcjbeajaaGreatDoorWf47
import Derived.WalkKit
section
set_option linter.unusedVariables false
namespace Go.Proofs.YtpcdcemcjbeajaaGreatDoor.wholeFar
open Go.ChangeShapes Go.WideShapes Go.ChangeAt Go.RowKit
theorem over : Rows.wholeFarRow.holds Tryz.pinned (OpenSpec.ofChange Rows.wholeFarSpec) :=
  OpenClaim.holds_of_wide 3 Tryz.f3 rfl rfl rfl rfl rfl rfl rfl ⟨rfl, rfl, rfl, rfl, rfl⟩ rfl rfl rfl rfl rfl (by kernel_rfl) Tryz.func3 closed
    (of_decide_eq_true (by kernel_rfl)) (by unfold Func.isWrapper; first | (rw [if_pos (by decide +kernel)]; kernel_rfl) | (rw [if_neg (by decide +kernel)]; exact ⟨rfl, rfl⟩))
    (fun os started H enc _ => lifted os started H enc)
end Go.Proofs.YtpcdcemcjbeajaaGreatDoor.wholeFar
end
section
set_option linter.unusedVariables false
namespace Go.Proofs.YtpcdcemcjbeajaaGreatDoor
open Go
theorem no_goes : Tryz.prog.funcs.toList.any Func.goes = false := by kernel_rfl
theorem any_none (l : List FuncId) : l.any (fun g => (Tryz.prog.funcs[g]?).any Func.goes) = false := by
  rw [List.any_eq_false]
  intro g _ h
  cases hg : Tryz.prog.funcs[g]? with
  | none => rw [hg] at h; exact Bool.noConfusion h
  | some fn =>
    rw [hg] at h
    have h1 := List.any_eq_false.1 no_goes fn (Array.mem_toList_iff.2 (Array.mem_of_getElem? hg))
    exact h1 h
theorem goes_f (f : FuncId) : Tryz.prog.goes f = false := by
  unfold Program.goes
  rw [any_none, Bool.false_or]
  have : Tryz.prog.funcs.any Func.goes = false := by
    rw [← Array.any_toList]; exact no_goes
  rw [this, Bool.and_false]
theorem any_of {p : FuncId → Bool} (h : ∀ f, p f = false) : ∀ o : Option FuncId, o.any p = false
  | none => rfl
  | some f => h f
theorem goes_any (o : Option FuncId) : o.any Tryz.prog.goes = false := any_of goes_f o
theorem prog_eq : Tryz.pinned.checked.prog = Tryz.prog := rfl
theorem start_row : Rows.wholeFarRow.start = .entering := rfl
theorem goes_at (P : Program) (c : OpenClaim) (hs : c.start = .entering) (h : ∀ o : Option FuncId, o.any P.goes = false) : false = c.goesBy P := by
  unfold OpenClaim.goesBy Program.goesAt Program.goesFrom
  rw [h, hs]
  rfl
theorem goes_row : false = Rows.wholeFarRow.goesBy Tryz.pinned.checked.prog := goes_at _ _ start_row (prog_eq ▸ goes_any)
theorem card_of_row (h : Rows.WholeFarSaid) : Rows.WholeFarCardSaid :=
  Claim7.holds_tied_plain_at .later [] [.data, .data, .data] true (true, "b2e498da735974298cf67d9111dc3fe8887ce5e679bdde8de16ee95c615256cc") true
    h (fun _ h => by cases h) (by kernel_rfl) (fun _ h => by cases h) wholeFar_row_tie rfl ⟨rfl, rfl⟩ (by kernel_rfl) rfl
    (fun f fn hf hfn => by
      obtain rfl : f = 3 := Option.some.inj ((show Tryz.prog.funcNamed "tenon/tenontop.WholeFar" = some 3 by kernel_rfl).symm.trans hf) |>.symm
      obtain rfl : fn = Tryz.f3 := (Option.some.inj ((show Tryz.prog.funcs[3]? = some Tryz.f3 by kernel_rfl).symm.trans hfn)).symm
      exact ⟨by kernel_rfl, fun j t ht => by
        have h3 : t ∈ Tryz.f3.params := Array.mem_of_getElem? ht
        have h4 : Tryz.f3.params.toList.all (fun t => !Tryz.prog.wantsStandIn t) = true := by kernel_rfl
        have h5 := List.all_eq_true.1 h4 t (Array.mem_toList_iff.2 h3)
        show Tryz.prog.wantsStandIn t = false
        simpa using h5⟩)
    goes_row
theorem wholeFar_holds : Rows.WholeFarCardSaid := card_of_row wholeFar.over
#print axioms wholeFar_holds
end Go.Proofs.YtpcdcemcjbeajaaGreatDoor
end
