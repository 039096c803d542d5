/- Acts; what the laws of one's own registries ask of what moves. -/
import Derived.Test.YtnebpklmbefmfaaOne
set_option linter.unusedVariables false
set_option linter.unusedSimpArgs false
namespace Go.Proofs.Ytnebpklmbefmfaa
open Go.RowKit
structure Ac where
  kind : Int
  mo : Int
  what : Int
  up : Bool
def Ac.cells (a : Ac) : List Value := [.int .i64 a.kind, .int .i64 a.mo, .int .i64 a.what, .bool a.up]
theorem Ac.len (a : Ac) : a.cells.length = 4 := rfl
/-! RegistryAgain -/
theorem ag_up : ∀ q, q < 3 → countP [mv0, mv0] 1 (q : Nat) true = (0, [mv0, mv0.put q 1]) := by decide +kernel
theorem ag_dn : ∀ q, q < 3 → countP [mv0, mv0.put q 1] 1 (q : Nat) false = (0, [mv0, ⟨true, 0, 0, 0, 0⟩]) := by decide +kernel
theorem ag_on : ∀ q, q < 3 → (mv0.put q 1).on = true := by decide
theorem ag_tick : ∀ k, k < 5 → ([mv0, ⟨true, 0, 0, 0, (k : Nat)⟩] : List Mv).map tickP = [mv0, ⟨true, 0, 0, 0, ((k + 1 : Nat) : Int)⟩] := by decide +kernel
theorem ag_no : ∀ d, d < 5 → ∀ k, k < d → freedP (d : Nat) [mv0, ⟨true, 0, 0, 0, (k : Nat)⟩] 2 = [] ∧ ([mv0, ⟨true, 0, 0, 0, (k : Nat)⟩] : List Mv).map (freeP (d : Nat)) = [mv0, ⟨true, 0, 0, 0, (k : Nat)⟩] := by decide +kernel
theorem ag_yes : ∀ d, d < 5 → freedP (d : Nat) [mv0, ⟨true, 0, 0, 0, (d : Nat)⟩] 2 = [1] ∧ ([mv0, ⟨true, 0, 0, 0, (d : Nat)⟩] : List Mv).map (freeP (d : Nat)) = [mv0, mv0] := by decide +kernel
theorem two_find : rfindP [oneM 1, oneM 2] (2 :: z15) = some (1, 0) := by decide +kernel
theorem two_new : ∀ d, d < 10 → newP [oneM 1, oneM 2] (d : Nat) = 0 := by decide +kernel
theorem two_sz : MsSz [oneM 1, oneM 2] := fun m hm => by
  simp only [List.mem_cons, List.not_mem_nil, or_false] at hm
  rcases hm with rfl | rfl <;> exact one_sz _
theorem two_b : MsB [oneM 1, oneM 2] := fun m hm => by
  simp only [List.mem_cons, List.not_mem_nil, or_false] at hm
  rcases hm with rfl | rfl <;> exact one_b (by decide)
theorem pick_nat (x : Int) {n : Nat} (h : 0 < n) : ∃ q : Nat, (if (n : Int) < 1 then (0 : Int) else x % (n : Int)) = (q : Int) ∧ q < n := by
  rw [if_neg (by omega)]
  have h1 := Int.emod_nonneg x (show (n : Int) ≠ 0 by omega)
  have h2 := Int.emod_lt_of_pos x (show (0 : Int) < n by omega)
  exact ⟨(x % (n : Int)).toNat, by omega, by omega⟩
end Go.Proofs.Ytnebpklmbefmfaa
