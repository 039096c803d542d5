/- Rows of the laws' own modules; what is told of what moves. -/
import Derived.Test.YtnebpklmbefmfaaActs
set_option linter.unusedVariables false
set_option linter.unusedSimpArgs false
namespace Go.Proofs.Ytnebpklmbefmfaa
open Go.RowKit
def ones (k : Nat) : List (List Cl) := (List.range k).map fun (i : Nat) => oneM (i : Int)
theorem ones_len (k : Nat) : (ones k).length = k := by simp [ones]
theorem ones_succ (k : Nat) : ones (k + 1) = ones k ++ [oneM (k : Int)] := by simp [ones, List.range_succ]
theorem ones_sz (k : Nat) : MsSz (ones k) := fun m hm => by
  obtain ⟨i, _, rfl⟩ := List.mem_map.1 hm
  exact one_sz _
theorem ones_b {k : Nat} (h : k ≤ 4) : MsB (ones k) := fun m hm => by
  obtain ⟨i, hi, rfl⟩ := List.mem_map.1 hm
  have : i < k := by simpa using hi
  exact one_b (by omega)
theorem ones_new : ∀ p, p < 4 → ∀ d, d < 6 → newP (ones (1 + p)) (d : Nat) = 0 := by decide +kernel
theorem el_md : ElT Try.prog 30 1 24 [.slice none 0 0] := ElT.mk' (by kernel_rfl) zt30 rfl rfl
theorem u8_small {i : Nat} (h : i < 4) : IntKind.u8.wrap (i : Int) = (i : Int) := by
  simp only [IntKind.wrap, IntKind.signed, IntKind.bits]
  simp
  omega
section
variable {c : Cx} {Qp : Po} {K : Ko} {ρ : Env} {ds : Ds} {L : List Ent} {ol rest : List Oper} {d : Option Nat} {ty : TypeId} {pos : String} {af : Array Edge} {g : Option (Nat × Bool)} {t t' : TypeId} {x y : Operand}
theorem RL.neBs {a : Bool} (hw : wantE c.n ol ρ ⟨d, .binOp .neq t x y t', ty, pos, af, g⟩ = true) (hu : c.P.underlying t = some .bool) (hx : evE c.n ρ x = .bool a) (hy : evE c.n ρ y = .bool a) (h : RL c ol rest K Qp (updO ρ d (.bool false)) ds L) :
    RL c ol (⟨d, .binOp .neq t x y t', ty, pos, af, g⟩ :: rest) K Qp ρ ds L := RL.neB hw hu hx hy (by simpa using h)
end
theorem getS_out {ss : List Mv} {i : Int} (h : i < 0 ∨ (ss.length : Int) ≤ i) : getS ss i = none := by
  unfold getS
  split
  · rfl
  · exact List.getElem?_eq_none (by omega)
theorem getS_in {ss : List Mv} {m : Nat} {s : Mv} (h : ss[m]? = some s) : getS ss (m : Int) = some s := by
  unfold getS
  rw [if_neg (by omega), Int.toNat_natCast, h]
theorem loadedP_in {ss : List Mv} {m : Nat} {s : Mv} (h : ss[m]? = some s) : loadedP ss (m : Int) = s.on := by
  unfold loadedP; rw [getS_in h]; rfl
theorem ModsO.one {ms : List (List Cl)} {vs : List Value} {L : List Ent} (h : ModsO ms vs L) : ∀ v ∈ vs, v.oneCell' = true := by
  induction h with
  | nil => intro v hv; cases hv
  | snoc h hm ih =>
    intro v hv
    rcases List.mem_append.1 hv with hv | hv
    · exact ih v hv
    · rw [List.mem_singleton] at hv; subst hv; rfl
theorem rEl_one {v : Value} (s : Mv) (h : v.oneCell' = true) : ∀ u ∈ rEl v s, u.oneCell' = true := by
  intro u hu
  simp only [rEl, Mv.cells, List.mem_cons, List.not_mem_nil, or_false] at hu
  rcases hu with rfl | rfl | rfl | rfl | rfl | rfl
  · exact h
  all_goals rfl
theorem countP_len (ss : List Mv) (i what : Int) (up : Bool) : (countP ss i what up).2.length = ss.length := by
  unfold countP
  split
  · rfl
  · split
    · rfl
    · split
      · rfl
      · simp
end Go.Proofs.Ytnebpklmbefmfaa
