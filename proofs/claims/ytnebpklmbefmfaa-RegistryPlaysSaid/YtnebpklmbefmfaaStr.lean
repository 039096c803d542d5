/- SYM: strings: cut, indexed, ranged over, compared. -/
import Derived.Test.YtnebpklmbefmfaaInts
import Derived.Laws.StructEq
set_option linter.unusedVariables false
set_option linter.unusedSimpArgs false
namespace Go.Proofs.Ytnebpklmbefmfaa
open Go.RowKit
section
variable {c : Cx} {Qp : Po} {K : Ko} {ρ : Env} {ds : Ds} {L : List Ent} {ol rest : List Oper} {d : Option Nat} {ty : TypeId} {pos : String} {af : Array Edge} {g : Option (Nat × Bool)} {t t' : TypeId} {x y z : Operand}
theorem RL.min2 {k : IntKind} {a b : Int} {t1 t2 : TypeId} (hw : wantE c.n ol ρ ⟨d, .call ⟨.builtin .min, #[x, y], #[t1, t2]⟩, ty, pos, af, g⟩ = true) (hx : evE c.n ρ x = .int k a) (hy : evE c.n ρ y = .int k b) (h : RL c ol rest K Qp (updO ρ d (.int k (min a b))) ds L) :
    RL c ol (⟨d, .call ⟨.builtin .min, #[x, y], #[t1, t2]⟩, ty, pos, af, g⟩ :: rest) K Qp ρ ds L :=
  RL.pure hw rfl (fun w => by
    have e : (if b < a then b else a) = min a b := by omega
    simp [execOp, resolve, invoke, builtin, hx, hy, Sem.run_bind, Builtin.min_, Builtin.min2, e]) h
/-- s[l:h] of a string. -/
theorem RL.sliceS {s : ByteArray} {kl kh : IntKind} {i j : Nat} {il ih : Int} (hw : wantE c.n ol ρ ⟨d, .slice t x (some y) (some z) none, ty, pos, af, g⟩ = true) (hu : c.P.underlying t = some .string) (hx : evE c.n ρ x = .string s) (hy : evE c.n ρ y = .int kl il) (hz : evE c.n ρ z = .int kh ih) (hi : il = (i : Int)) (hj : ih = (j : Int)) (h1 : i ≤ j) (h2 : j ≤ s.size)
    (h : RL c ol rest K Qp (updO ρ d (.string (s.extract i j))) ds L) : RL c ol (⟨d, .slice t x (some y) (some z) none, ty, pos, af, g⟩ :: rest) K Qp ρ ds L := by
  subst hi hj
  refine RL.pure hw rfl (fun w => ?_) h
  simp [execOp, hx, hy, hz, Instr.sliceAt, Instr.slice, Instr.sliceBounds, Instr.sliceBound, asIntOf, Sem.run_bind, run_underlying hu, h1, h2]
theorem RL.sliceSHi {s : ByteArray} {kh : IntKind} {j : Nat} {ih : Int} (hw : wantE c.n ol ρ ⟨d, .slice t x none (some z) none, ty, pos, af, g⟩ = true) (hu : c.P.underlying t = some .string) (hx : evE c.n ρ x = .string s) (hz : evE c.n ρ z = .int kh ih) (hj : ih = (j : Int)) (h2 : j ≤ s.size)
    (h : RL c ol rest K Qp (updO ρ d (.string (s.extract 0 j))) ds L) : RL c ol (⟨d, .slice t x none (some z) none, ty, pos, af, g⟩ :: rest) K Qp ρ ds L := by
  subst hj
  refine RL.pure hw rfl (fun w => ?_) h
  simp [execOp, hx, hz, Instr.sliceAt, Instr.slice, Instr.sliceBounds, Instr.sliceBound, asIntOf, Sem.run_bind, run_underlying hu, h2]
theorem RL.indexS {s : ByteArray} {k : IntKind} {i : Nat} {ii : Int} {b : UInt8} (hw : wantE c.n ol ρ ⟨d, .index t x y, ty, pos, af, g⟩ = true) (hu : c.P.underlying t = some .string) (hx : evE c.n ρ x = .string s) (hy : evE c.n ρ y = .int k ii) (hi : ii = (i : Int)) (hb : s[i]? = some b)
    (h : RL c ol rest K Qp (updO ρ d (.int .u8 (b.toNat : Int))) ds L) : RL c ol (⟨d, .index t x y, ty, pos, af, g⟩ :: rest) K Qp ρ ds L := by
  subst hi
  refine RL.pure hw rfl (fun w => ?_) h
  simp [execOp, hx, hy, Instr.index, asIntOf, Sem.run_bind, run_underlying hu, hb]
theorem RL.rangeS {s : ByteArray} (hq : c.q = false) (hw : wantE c.n ol ρ ⟨d, .range t x, ty, pos, af, g⟩ = true) (hu : c.P.underlying t = some .string) (hx : evE c.n ρ x = .string s)
    (h : ∀ b, c.w0.heap.size ≤ b → RL c ol rest K Qp (updO ρ d (.pointer (some ⟨b, 0, none⟩))) ds ((b, .stringIter s 0) :: L)) : RL c ol (⟨d, .range t x, ty, pos, af, g⟩ :: rest) K Qp ρ ds L :=
  RL.step hq hw rfl fun w hst => ⟨_, w.alloc (.stringIter s 0), _, .inl (by simp [execOp, hx, Instr.range, Sem.run_bind, run_underlying hu]), hst.alloc _, h _ hst.size⟩
theorem RL.nextS_t {s : ByteArray} {p b : Nat} (hq : c.q = false) (hw : wantE c.n ol ρ ⟨d, .next x true, ty, pos, af, g⟩ = true) (hx : evE c.n ρ x = .pointer (some ⟨b, 0, none⟩)) (hp : p < s.size) {cw : Nat} (hd : Utf8.decode s p = (cw, 1))
    (h : RL c ol rest K Qp (updO ρ d (.tuple #[.bool true, .int .i64 (p : Int), .int .i32 (cw : Int)])) ds ((b, .stringIter s (p + 1)) :: L)) : RL c ol (⟨d, .next x true, ty, pos, af, g⟩ :: rest) K Qp ρ ds ((b, .stringIter s p) :: L) := by
  refine RL.step hq hw rfl fun w hst => ?_
  have hb : w.heap[b]? = some (.stringIter s p) := hst.own (b, _) List.mem_cons_self
  refine ⟨_, w.putObj b (.stringIter s (p + 1)), _, .inl ?_, St.putObj (L1 := []) hst _, h⟩
  have h1 : (getObj b).run c.P w = .ok (.stringIter s p) w := by simp [getObj, Sem.run, hb]
  have h2 : (setObj b (.stringIter s (p + 1))).run c.P w = .ok () (w.putObj b (.stringIter s (p + 1))) := by simp [setObj, Sem.run, hb, World.putObj]
  simp only [execOp, hx, Instr.next, Sem.run_bind, h1, Result.andThen_ok]
  simp [hp, hd, Sem.run_bind, h2, goInt]
theorem RL.nextS_f {s : ByteArray} {p b : Nat} (hq : c.q = false) (hw : wantE c.n ol ρ ⟨d, .next x true, ty, pos, af, g⟩ = true) (hx : evE c.n ρ x = .pointer (some ⟨b, 0, none⟩)) (hp : ¬ p < s.size)
    (h : RL c ol rest K Qp (updO ρ d (.tuple #[.bool false])) ds ((b, .stringIter s p) :: L)) : RL c ol (⟨d, .next x true, ty, pos, af, g⟩ :: rest) K Qp ρ ds ((b, .stringIter s p) :: L) := by
  refine RL.step hq hw rfl fun w hst => ?_
  have hb : w.heap[b]? = some (.stringIter s p) := hst.own (b, _) List.mem_cons_self
  refine ⟨_, w, _, .inl ?_, hst, h⟩
  have h1 : (getObj b).run c.P w = .ok (.stringIter s p) w := by simp [getObj, Sem.run, hb]
  simp only [execOp, hx, Instr.next, Sem.run_bind, h1, Result.andThen_ok]
  simp [hp]
theorem bytes_eq {a b : ByteArray} : (a.toList == b.toList) = decide (a = b) := by
  by_cases h : a = b
  · subst h; simp
  · rw [decide_eq_false h]
    cases he : a.toList == b.toList with
    | false => rfl
    | true =>
      have h1 : a.toList = b.toList := by simpa using he
      rw [ByteArray.toList_eq, ByteArray.toList_eq] at h1
      exact absurd (ByteArray.ext (Array.toList_inj.1 h1)) h
theorem RL.eqS {a b : ByteArray} (hw : wantE c.n ol ρ ⟨d, .binOp .eql t x y t', ty, pos, af, g⟩ = true) (hx : evE c.n ρ x = .string a) (hy : evE c.n ρ y = .string b) (h : RL c ol rest K Qp (updO ρ d (.bool (decide (a = b)))) ds L) : RL c ol (⟨d, .binOp .eql t x y t', ty, pos, af, g⟩ :: rest) K Qp ρ ds L :=
  RL.pure hw rfl (fun w => by
    rw [← bytes_eq]
    have hg : (eqGuard .eql t x y (.string a) (.string b)).run c.P w = .ok () w := rfl
    simp only [execOp, hx, hy, Sem.run_bind, hg, Result.andThen_ok]
    simp [binOp, Op.stringOp]) h
theorem RL.neS {a b : ByteArray} (hw : wantE c.n ol ρ ⟨d, .binOp .neq t x y t', ty, pos, af, g⟩ = true) (hx : evE c.n ρ x = .string a) (hy : evE c.n ρ y = .string b) (h : RL c ol rest K Qp (updO ρ d (.bool (!decide (a = b)))) ds L) : RL c ol (⟨d, .binOp .neq t x y t', ty, pos, af, g⟩ :: rest) K Qp ρ ds L :=
  RL.pure hw rfl (fun w => by
    rw [← bytes_eq]
    have hg : (eqGuard .neq t x y (.string a) (.string b)).run c.P w = .ok () w := rfl
    simp only [execOp, hx, hy, Sem.run_bind, hg, Result.andThen_ok]
    simp [binOp, Op.stringOp]) h
end
end Go.Proofs.Ytnebpklmbefmfaa
