/- Rows of instructions of one's own, written over. -/
import Derived.Test.YtdnnnbjmjjdcfaaOwned
set_option linter.unusedVariables false
set_option linter.unusedSimpArgs false
namespace Go.Proofs.Ytdnnnbjmjjdcfaa
open Go.RowKit
theorem Row.room {e sz : Nat} {v : Value} {xs : List Value} {Lr : List Ent} (h : Row e sz v xs Lr) : ∀ {b m cp : Nat} {l : List Value}, v = .slice (some ⟨b, 0, none⟩) m cp → Lr = [(b, cel e l)] → l.length = cp * sz ∧ m ≤ cp := by
  cases h with
  | nil => intro b m cp l hv hl; cases hv
  | blk b m cp xs junk h1 h2 h3 =>
    intro b' m' cp' l hv hl
    injection hv with _ h5 h6
    subst h5 h6
    have := congrArg (fun q => q.map (fun p => p.2)) hl
    simp only [List.map_cons, List.map_nil, List.cons.injEq, and_true, Obj.cells.injEq] at this
    have e2 : xs ++ junk = l := by simpa using congrArg Array.toList this
    rw [← e2]; exact ⟨h2, h3⟩
theorem Row.upd {e sz m cp b : Nat} {xs ys junk : List Value} (h : Row e sz (.slice (some ⟨b, 0, none⟩) m cp) xs [(b, cel e (xs ++ junk))]) (h0 : 0 < sz) (hl : ys.length = xs.length) : Row e sz (.slice (some ⟨b, 0, none⟩) m cp) ys [(b, cel e (ys ++ junk))] := by
  obtain ⟨h1, h2⟩ := h.room rfl rfl
  have h3 : xs.length = m * sz := by
    obtain ⟨A', m', cp', he, e1, -, -⟩ := h.slice h0
    injection he with _ e2 e3
    subst e2
    exact e1
  exact Row.blk b m cp ys junk (hl.trans h3) (by rw [List.length_append] at h1 ⊢; omega) h2
theorem icells_mid (p q : List Ins) (x : Ins) (junk : List Value) : icells (p ++ x :: q) ++ junk = icells p ++ (x.cells ++ (icells q ++ junk)) := by simp [ecells]
theorem ins_op (p q : List Ins) (x : Ins) (junk : List Value) : (icells (p ++ x :: q) ++ junk)[0 + p.length * 3 + 0]? = some (.int .i64 x.op) := by
  rw [icells_mid, List.getElem?_append_right (by rw [ecells_len Ins.len]; omega), ecells_len Ins.len, show 0 + p.length * 3 + 0 - p.length * 3 = 0 by omega]
  rfl
theorem ins_set (p q : List Ins) (x : Ins) (junk : List Value) (n : Int) : (icells (p ++ x :: q) ++ junk).set (0 + p.length * 3 + 0) (.int .i64 n) = icells (p ++ ⟨n, x.a, x.b⟩ :: q) ++ junk := by
  rw [icells_mid, icells_mid, List.set_append_right _ _ (by rw [ecells_len Ins.len]; omega), ecells_len Ins.len, show 0 + p.length * 3 + 0 - p.length * 3 = 0 by omega]
  rfl
theorem ins_op_at {l : List Ins} {g : Nat} {x : Ins} {junk : List Value} (h : l[g]? = some x) : (icells l ++ junk)[0 + g * 3 + 0]? = some (.int .i64 x.op) := by
  obtain ⟨hg, e⟩ := List.getElem?_eq_some_iff.1 h
  have e2 : l.take g ++ x :: l.drop (g + 1) = l := by rw [← e, ← List.drop_eq_getElem_cons hg, List.take_append_drop]
  have h3 := ins_op (l.take g) (l.drop (g + 1)) x junk
  rw [List.length_take, Nat.min_eq_left (by omega), e2] at h3
  exact h3
def bumpI (x : Ins) : Ins := ⟨IntKind.i64.wrap (x.op + 1), x.a, x.b⟩
theorem bump_ne (n : Int) : ¬ n = IntKind.i64.wrap (n + 1) := by
  simp only [IntKind.wrap, IntKind.signed, IntKind.bits]
  simp
  omega
theorem mfindP_at {m : List Cl} {id : List Int} {k : Nat} (h : mfindP m id = some k) : k < m.length := by
  unfold mfindP at h
  exact (List.findIdx?_eq_some_iff_getElem.1 h).1
end Go.Proofs.Ytdnnnbjmjjdcfaa
