/- SYM: bytes: rows of them, appended to, cut, made texts of; arrays as slices; shifts. -/
import Derived.Test.YtnebpklmbefmfaaClassD
import Derived.Test.YtnebpklmbefmfaaStr
import Derived.Laws.BytesArg
set_option linter.unusedVariables false
set_option linter.unusedSimpArgs false
namespace Go.Proofs.Ytnebpklmbefmfaa
open Go.RowKit
theorem el_u8 : ElT Try.prog 5 1 1 [.int .u8 0] := ElT.mk' (by kernel_rfl) zt5 rfl rfl
theorem gcells_one (xs : List Int) : ∀ u ∈ gcells xs, u.oneCell' = true := by
  intro u hu
  unfold gcells at hu
  obtain ⟨x, _, rfl⟩ := List.mem_map.1 hu
  rfl
theorem gcells_app (xs ys : List Int) : gcells (xs ++ ys) = gcells xs ++ gcells ys := by simp [gcells]
theorem gcells_len (xs : List Int) : (gcells xs).length = xs.length := by simp [gcells]
theorem gcells_get {xs : List Int} {i : Nat} {x : Int} (h : xs[i]? = some x) : (gcells xs)[i]? = some (.int .u8 x) := by simp [gcells, h]
theorem row_cap' {e sz n cp : Nat} {A : Option Addr} {xs : List Value} {Lr : List Ent} (h : Row e sz (.slice A n cp) xs Lr) : n ≤ cp := by
  cases h with
  | nil => exact Nat.le_refl _
  | blk b m cp xs junk h1 h2 h3 => exact h3
section
variable {c : Cx} {Qp : Po} {K : Ko} {ρ : Env} {ds : Ds} {L : List Ent} {ol rest : List Oper} {d : Option Nat} {ty : TypeId} {pos : String} {af : Array Edge} {g : Option (Nat × Bool)} {t t2 t' : TypeId} {x y : Operand}
/-- append onto a row of one's own, its value laid open. -/
theorem RL.appG {e sz bytes n cy m cp N e2 : Nat} {z : List Value} {A : Option Addr} {xs ys : List Value} {Lr Lz : List Ent} {B : Option Addr} (hq : c.q = false) (hw : wantE c.n ol ρ ⟨d, .call ⟨.builtin .append, #[x, y], #[t, t2]⟩, ty, pos, af, g⟩ = true) (hT : SlT c.P t e sz) (hE : ElT c.P e sz bytes z) (hsz : 0 < sz) (hb0 : 0 < bytes)
    (hu : c.P.underlying t2 = some (.slice e2)) (hL : L.Perm (Lr ++ Lz)) (hx : evE c.n ρ x = .slice A m cp) (hrow : Row e sz (.slice A m cp) xs Lr) (hy : evE c.n ρ y = .slice B n cy) (hys : ys.length = n * sz) (h1 : ∀ u ∈ ys, u.oneCell' = true)
    (hc : ∀ w, St c.w0 c.S w (Lr ++ Lz) → ys = [] ∨ ∃ b o, B = some ⟨b, o, none⟩ ∧ CellsAt w b o ys) (hb : (2 * (m + n) + 768) * bytes ≤ 281474976710656) (hN : N = m + n)
    (h : ∀ A' cp' Lr', Row e sz (.slice A' N cp') (xs ++ ys) Lr' → RL c ol rest K Qp (updO ρ d (.slice A' N cp')) ds (Lr' ++ Lz)) : RL c ol (⟨d, .call ⟨.builtin .append, #[x, y], #[t, t2]⟩, ty, pos, af, g⟩ :: rest) K Qp ρ ds L := by
  have hm : xs.length = m * sz := by
    obtain ⟨A2, m2, cp2, e1, e2, _⟩ := hrow.slice hsz
    cases e1; exact e2
  refine RL.append (Lr := Lr) (Lz := Lz) (ys := ys) hq hw hT hE hsz hb0 hu hL hx hrow hy hys h1 hc (fun m' hm' => ?_) (fun v' Lr' hr => ?_)
  · have : m' = m := by
      have := hm.symm.trans hm'
      exact (Nat.eq_of_mul_eq_mul_right hsz this).symm
    subst this; exact hb
  · obtain ⟨A', m', cp', rfl, hm', _, _⟩ := hr.slice hsz
    have : m' = N := by
      rw [List.length_append, hm, hys, ← Nat.add_mul] at hm'
      rw [hN]; exact (Nat.eq_of_mul_eq_mul_right hsz hm').symm
    subst this
    exact h A' cp' Lr' hr
/-- The same: what is appended fills a block of the list. -/
theorem RL.appB {e sz bytes n cy m cp N e2 bb : Nat} {z : List Value} {A : Option Addr} {xs ys : List Value} {Lr Lz : List Ent} (hq : c.q = false) (hw : wantE c.n ol ρ ⟨d, .call ⟨.builtin .append, #[x, y], #[t, t2]⟩, ty, pos, af, g⟩ = true) (hT : SlT c.P t e sz) (hE : ElT c.P e sz bytes z) (hsz : 0 < sz) (hb0 : 0 < bytes)
    (hu : c.P.underlying t2 = some (.slice e2)) (hx : evE c.n ρ x = .slice A m cp) (hrow : Row e sz (.slice A m cp) xs Lr) (hy : evE c.n ρ y = .slice (some ⟨bb, 0, none⟩) n cy) (hL : L.Perm (Lr ++ Lz)) (hm : (bb, cel e ys) ∈ Lz) (hys : ys.length = n * sz) (h1 : ∀ u ∈ ys, u.oneCell' = true)
    (hb : (2 * (m + n) + 768) * bytes ≤ 281474976710656) (hN : N = m + n)
    (h : ∀ A' cp' Lr', Row e sz (.slice A' N cp') (xs ++ ys) Lr' → RL c ol rest K Qp (updO ρ d (.slice A' N cp')) ds (Lr' ++ Lz)) : RL c ol (⟨d, .call ⟨.builtin .append, #[x, y], #[t, t2]⟩, ty, pos, af, g⟩ :: rest) K Qp ρ ds L :=
  RL.appG (ys := ys) hq hw hT hE hsz hb0 hu hL hx hrow hy hys h1 (fun w hst => .inr ⟨bb, 0, rfl, by
    have := hst.cellsO (b := bb) (t := e) (l := ys) (fr := (0, 0)) (List.mem_append_right _ hm) 0
    simpa using this⟩) hb hN h
theorem RL.bs1U {e : Nat} {a : Int} {zz : List Value} (hq : c.q = false) (hw : wantE c.n ol ρ ⟨d, .buildSlice t 1 #[(0, x)], ty, pos, af, g⟩ = true) (hT : SlT c.P t e 1) (hz : ZeroT c.P e zz) (hx : evE c.n ρ x = .int .u8 a)
    (h : ∀ bb, c.w0.heap.size ≤ bb → RL c ol rest K Qp (updO ρ d (.slice (some ⟨bb, 0, none⟩) 1 1)) ds ((bb, cel e (gcells [a])) :: L)) : RL c ol (⟨d, .buildSlice t 1 #[(0, x)], ty, pos, af, g⟩ :: rest) K Qp ρ ds L := RL.bs1I hq hw hT hz hx h
/-- a[:] of an array that lies somewhere. -/
theorem RL.sliceArr {e n sz b o : Nat} (hw : wantE c.n ol ρ ⟨d, .slice t x none none none, ty, pos, af, g⟩ = true) (hu : c.P.underlying t = some (.array n e)) (hs : ∀ w, (sizeOf e).run c.P w = .ok sz w) (hx : evE c.n ρ x = .pointer (some ⟨b, o, none⟩))
    (h : RL c ol rest K Qp (updO ρ d (.slice (some ⟨b, o, none⟩) n n)) ds L) : RL c ol (⟨d, .slice t x none none none, ty, pos, af, g⟩ :: rest) K Qp ρ ds L := by
  refine RL.pure hw rfl (fun w => ?_) h
  simp [execOp, hx, Instr.sliceAt, Instr.sureAddr, Instr.sliceBounds, Instr.sliceBound, Sem.run_bind, run_underlying hu, hs w, addr_add]
theorem RL.toArr {e n m cp b o : Nat} (hw : wantE c.n ol ρ ⟨d, .sliceToArrayPointer t x, ty, pos, af, g⟩ = true) (hu : c.P.underlying t = some (.array n e)) (hx : evE c.n ρ x = .slice (some ⟨b, o, none⟩) m cp) (hn : n ≤ m)
    (h : RL c ol rest K Qp (updO ρ d (.pointer (some ⟨b, o, none⟩))) ds L) : RL c ol (⟨d, .sliceToArrayPointer t x, ty, pos, af, g⟩ :: rest) K Qp ρ ds L := by
  refine RL.pure hw rfl (fun w => ?_) h
  simp [execOp, hx, Instr.arrayAt, Sem.run_bind, run_underlying hu, Nat.not_lt.2 hn]
/-- x[l:] of a slice. -/
theorem RL.sliceLo {e sz m cp j : Nat} {A : Option Addr} {k : IntKind} {i : Int} (hw : wantE c.n ol ρ ⟨d, .slice t x (some y) none none, ty, pos, af, g⟩ = true) (hT : SlT c.P t e sz) (hx : evE c.n ρ x = .slice A m cp) (hy : evE c.n ρ y = .int k i) (hi : i = (j : Int)) (hj : j ≤ m) (hmc : m ≤ cp)
    (h : RL c ol rest K Qp (updO ρ d (.slice (if cp = j then A else A.map (·.add (j * sz))) (m - j) (cp - j))) ds L) : RL c ol (⟨d, .slice t x (some y) none none, ty, pos, af, g⟩ :: rest) K Qp ρ ds L := by
  subst hi
  refine RL.pure hw rfl (fun w => ?_) h
  simp [execOp, hx, hy, Instr.sliceAt, Instr.slice, Instr.sliceBounds, Instr.sliceBound, asIntOf, Sem.run_bind, run_underlying hT.und, hT.size, hj, hmc]
variable {k kb : IntKind} {a b : Int}
theorem RL.shrN {n : Nat} (hw : wantE c.n ol ρ ⟨d, .binOp .shr t x y t', ty, pos, af, g⟩ = true) (hx : evE c.n ρ x = .int k a) (hy : evE c.n ρ y = .int kb b) (hb : b = (n : Int)) (hn : n ≤ k.bits) (h : RL c ol rest K Qp (updO ρ d (.int k (a.fdiv (2 ^ n)))) ds L) : RL c ol (⟨d, .binOp .shr t x y t', ty, pos, af, g⟩ :: rest) K Qp ρ ds L := by
  subst hb
  refine RL.pure hw rfl (fun w => ?_) h
  have hg : (eqGuard .shr t x y (.int k a) (.int kb (n : Int))).run c.P w = .ok () w := rfl
  simp only [execOp, hx, hy, Sem.run_bind, hg, Result.andThen_ok]
  have hm : min n k.bits = n := Nat.min_eq_left hn
  have h0 : ¬ ((n : Int) < 0) := by omega
  simp [binOp, Op.shift, hm, h0]
theorem RL.shlN {n : Nat} (hw : wantE c.n ol ρ ⟨d, .binOp .shl t x y t', ty, pos, af, g⟩ = true) (hx : evE c.n ρ x = .int k a) (hy : evE c.n ρ y = .int kb b) (hb : b = (n : Int)) (hn : n ≤ k.bits) (h : RL c ol rest K Qp (updO ρ d (.int k (k.wrap (a * 2 ^ n)))) ds L) : RL c ol (⟨d, .binOp .shl t x y t', ty, pos, af, g⟩ :: rest) K Qp ρ ds L := by
  subst hb
  refine RL.pure hw rfl (fun w => ?_) h
  have hg : (eqGuard .shl t x y (.int k a) (.int kb (n : Int))).run c.P w = .ok () w := rfl
  simp only [execOp, hx, hy, Sem.run_bind, hg, Result.andThen_ok]
  have hm : min n k.bits = n := Nat.min_eq_left hn
  have h0 : ¬ ((n : Int) < 0) := by omega
  simp [binOp, Op.shift, hm, h0]
theorem RL.orN (hw : wantE c.n ol ρ ⟨d, .binOp .or t x y t', ty, pos, af, g⟩ = true) (hx : evE c.n ρ x = .int k a) (hy : evE c.n ρ y = .int k b) {r : Int} (hr : k.wrap ((BitVec.ofInt k.bits a ||| BitVec.ofInt k.bits b).toNat) = r) (h : RL c ol rest K Qp (updO ρ d (.int k r)) ds L) : RL c ol (⟨d, .binOp .or t x y t', ty, pos, af, g⟩ :: rest) K Qp ρ ds L :=
  RL.binI (v := .int k r) hw hx hy (fun w => by rw [← hr]; simp [binOp, Op.intBits]) h
theorem RL.quo (hw : wantE c.n ol ρ ⟨d, .binOp .quo t x y t', ty, pos, af, g⟩ = true) (hx : evE c.n ρ x = .int k a) (hy : evE c.n ρ y = .int k b) (hb : b ≠ 0) {r : Int} (hr : k.wrap (a.tdiv b) = r) (h : RL c ol rest K Qp (updO ρ d (.int k r)) ds L) : RL c ol (⟨d, .binOp .quo t x y t', ty, pos, af, g⟩ :: rest) K Qp ρ ds L :=
  RL.binI (v := .int k r) hw hx hy (fun w => by rw [← hr]; simp [binOp, Op.intDiv, hb]) h
theorem RL.remE (hw : wantE c.n ol ρ ⟨d, .binOp .rem t x y t', ty, pos, af, g⟩ = true) (hx : evE c.n ρ x = .int k a) (hy : evE c.n ρ y = .int k b) (hb : b ≠ 0) {r : Int} (hr : a.tmod b = r) (h : RL c ol rest K Qp (updO ρ d (.int k r)) ds L) : RL c ol (⟨d, .binOp .rem t x y t', ty, pos, af, g⟩ :: rest) K Qp ρ ds L :=
  RL.rem hw hx hy hb (by rw [hr]; exact h)
end
end Go.Proofs.Ytnebpklmbefmfaa
