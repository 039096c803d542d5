/- All classes of some modules, one behind the other. -/
import Derived.Test.YtnebpklmbefmfaaOne
import Derived.Test.YtnebpklmbefmfaaRangeG
set_option linter.unusedVariables false
set_option linter.unusedSimpArgs false
namespace Go.Proofs.Ytnebpklmbefmfaa
open Go.RowKit
def allC (ms : List (List Cl)) : List (Nat × Cl) := ms.zipIdx.flatMap fun p => p.1.map fun c => (p.2, c)
theorem allC_succ {ms : List (List Cl)} {g : Nat} {m : List Cl} (h : ms[g]? = some m) : allC (ms.take (g + 1)) = allC (ms.take g) ++ m.map fun c => (g, c) := by
  have hlt := (List.getElem?_eq_some_iff.1 h).1
  unfold allC
  rw [take_snoc h, List.zipIdx_append, List.flatMap_append]
  simp [List.length_take, Nat.min_eq_left (Nat.le_of_lt hlt)]
theorem allC_pre (ms : List (List Cl)) : ∀ {g : Nat}, g ≤ ms.length → ∃ rest, allC ms = allC (ms.take g) ++ rest := by
  intro g hg
  unfold allC
  refine ⟨((ms.drop g).zipIdx g).flatMap fun p => p.1.map fun c => (p.2, c), ?_⟩
  rw [← List.flatMap_append]
  congr 1
  have := List.zipIdx_append (xs := ms.take g) (ys := ms.drop g) (k := 0)
  rw [List.take_append_drop] at this
  rw [this]
  simp [List.length_take, Nat.min_eq_left hg]
theorem allC_at {ms : List (List Cl)} {g k : Nat} {m : List Cl} {c : Cl} (h : ms[g]? = some m) (hk : m[k]? = some c) : ∃ rest, allC ms = (allC (ms.take g) ++ (m.take k).map fun c => (g, c)) ++ (g, c) :: rest := by
  have hlt := (List.getElem?_eq_some_iff.1 h).1
  obtain ⟨hk1, hk2⟩ := List.getElem?_eq_some_iff.1 hk
  obtain ⟨rest, hr⟩ := allC_pre ms (g := g + 1) (by omega)
  rw [hr, allC_succ h]
  refine ⟨(m.drop (k + 1)).map (fun c => (g, c)) ++ rest, ?_⟩
  have : m = m.take k ++ c :: m.drop (k + 1) := by
    rw [← hk2, ← List.drop_eq_getElem_cons hk1, List.take_append_drop]
  conv => lhs; rw [this]
  simp
theorem allC_all {ms : List (List Cl)} : allC (ms.take ms.length) = allC ms := by rw [List.take_length]
/-- What a round over classes is given. -/
def clE (x : Nat × Cl) (vals : List Value) (Lx : List Ent) : Prop := ∃ cs, vals = [.int .i64 ((x.1 : Nat) : Int), .agg cs.toArray] ∧ ClO x.2 cs Lx
theorem own_keep {w w1 : World} {S : List Nat} {L LG : List Ent} (hst : St w S w1 L) (hown : ∀ p ∈ LG, w.heap[p.1]? = some p.2) (hd : ∀ p ∈ LG, p.1 ∉ S) : ∀ p ∈ LG, w1.heap[p.1]? = some p.2 := fun p hp => by
  have h := hown p hp
  rw [hst.keep p.1 (Array.getElem?_eq_some_iff.1 h).1 (hd p hp)]; exact h
def cI (k6 k7 m : Nat) (pre : List (Nat × Cl)) (L : List Ent) : Prop := ∃ Ai ci Li Ax cx css Lr Ls, Row 3 1 (.slice Ai pre.length ci) (ints (pre.map fun p => ((p.1 : Nat) : Int))) Li ∧ Row 69 19 (.slice Ax pre.length cx) css.flatten Lr ∧ ClsO (pre.map (·.2)) css Ls ∧ pre.length ≤ m ∧
  L = Li ++ (Lr ++ (Ls ++ [(k6, cel 38 [.slice Ai pre.length ci]), (k7, cel 28 [.slice Ax pre.length cx])]))
def cX (k6 k7 m : Nat) (e : Exit) (pre : List (Nat × Cl)) (L : List Ent) : Prop := e = .exit 0 ∧ ∃ p x, pre = p ++ [x] ∧ cI k6 k7 m p L ∧ p.length = m
theorem cells_st {w0 w : World} {S : List Nat} {L : List Ent} {b o : Nat} {l : List Value} (hst : St w0 S w L) (hc : CellsAt w0 b o l) (hS : 0 < l.length → b ∉ S) : CellsAt w b o l := by
  intro j v hv
  exact hst.cellI (hc j v hv) (hS (by have := (List.getElem?_eq_some_iff.1 hv).1; omega))
end Go.Proofs.Ytnebpklmbefmfaa
