/- SYM: bytes of one's own with room behind them. -/
import Derived.Test.YtdnnnbjmjjdcfaaRef
set_option linter.unusedVariables false
set_option linter.unusedSimpArgs false
namespace Go.Proofs.Ytdnnnbjmjjdcfaa
open Go.RowKit
section
variable {c : Cx} {Qp : Po} {K : Ko} {ρ : Env} {ds : Ds} {L : List Ent} {ol rest : List Oper} {d : Option Nat} {ty : TypeId} {pos : String} {af : Array Edge} {g : Option (Nat × Bool)} {t : TypeId} {x y : Operand}
/-- make([]byte, 0, n). -/
theorem RL.makeU8 {e n : Nat} {cp : Int} (hq : c.q = false) (hw : wantE c.n ol ρ ⟨d, .makeSlice t x y, ty, pos, af, g⟩ = true) (hT : SlT c.P t e 1) (hE : ElT c.P e 1 1 [.int .u8 0]) (hx : evE c.n ρ x = .int .i64 0) (hy : evE c.n ρ y = .int .i64 cp) (hc : cp = (n : Int)) (h0 : 0 < n) (hn : n ≤ 1000000)
    (h : ∀ b, c.w0.heap.size ≤ b → RL c ol rest K Qp (updO ρ d (.slice (some ⟨b, 0, none⟩) 0 n)) ds ((b, cel e (gcells (List.replicate n 0))) :: L)) : RL c ol (⟨d, .makeSlice t x y, ty, pos, af, g⟩ :: rest) K Qp ρ ds L := by
  subst hc
  refine RL.step hq hw rfl fun w hst => ⟨_, w.alloc (cel e (gcells (List.replicate n 0))), _, .inl ?_, hst.alloc _, h _ hst.size⟩
  obtain ⟨ii, hi1, hi2⟩ := hE.run_info w
  obtain ⟨zv, hz1, hz2⟩ := hE.zero
  have hwr : IntKind.i64.wrap (n : Int) = (n : Int) := wrap_i64 (by omega)
  have hwr0 : IntKind.i64.wrap 0 = 0 := by decide
  have h1 : ¬ ((n : Int) < 0) := by omega
  have hz : ∀ m : Nat, (Array.range m).map (fun i => (#[Value.int IntKind.u8 0] : Array Value)[i % 1]!) = (gcells (List.replicate m 0)).toArray := by
    intro m
    apply Array.ext
    · simp [gcells]
    · intro i hi1 hi2
      simp [gcells, Nat.mod_one]
  have ha : ∀ (k : Int) (w : World), (asInt (.int .i64 k)).run c.P w = .ok k w := fun k w => by simp [asInt, asIntOf, Sem.run_bind]
  simp only [execOp, hx, hy, Instr.makeSlice, Sem.run_bind, run_underlying hT.und, Result.andThen_ok, ha, Sem.run_pure, hi1, hi2, hwr, hwr0]
  have h3 : (decide ((n : Int) < 0) || decide (((1 : Nat) : Int) * (n : Int) > 2 ^ 48)) = false := by simp; omega
  have h4 : ¬ (n = 0) := by omega
  have hz' : (Array.range n).map (fun x => [Value.int IntKind.u8 0][x % 1]?.getD default) = (gcells (List.replicate n 0)).toArray := by
    rw [← hz n]
    apply Array.ext <;> simp
  simp [h3, h1, run_askRoom, hE.run_size, newRow, Sem.run_bind, hz2, hz1, h4]
  rw [if_neg (by omega), hz']
end
theorem cell_of {w : World} {b t i : Nat} {l : List Value} {v : Value} (h : w.heap[b]? = some (cel t l)) (hv : l[i]? = some v) : w.cell? ⟨b, i, none⟩ = some v := by rw [cell_entry h]; simpa using hv
def lentB (r : List Int) : List Int := r ++ [90, 91, 92, 93]
theorem lent_at {r : List Int} {junk : List Value} {g : Nat} (hg : g < 4) : (gcells (lentB r) ++ junk)[0 + (r.length + g) * 1]? = some (.int .u8 (90 + (g : Int))) := by
  rw [Nat.zero_add, Nat.mul_one, List.getElem?_append_left (by simp [gcells, lentB]; omega)]
  unfold gcells lentB
  rw [List.getElem?_map, List.getElem?_append_right (by omega), Nat.add_sub_cancel_left]
  match g, hg with
  | 0, _ => rfl
  | 1, _ => rfl
  | 2, _ => rfl
  | 3, _ => rfl
theorem lent_pre {r : List Int} {junk : List Value} {j : Nat} {v : Value} (h : (gcells r)[j]? = some v) : (gcells (lentB r) ++ junk)[j]? = some v := by
  have hj := (List.getElem?_eq_some_iff.1 h).1
  rw [gcells_len] at hj
  rw [List.getElem?_append_left (by simp [gcells, lentB]; omega)]
  unfold gcells lentB at *
  rw [List.map_append, List.getElem?_append_left (by rw [List.length_map]; omega)]
  exact h
end Go.Proofs.Ytdnnnbjmjjdcfaa
