/- Classes of one's own, taken apart. -/
import Derived.Test.YtnebpklmbefmfaaAllC
set_option linter.unusedVariables false
set_option linter.unusedSimpArgs false
namespace Go.Proofs.Ytnebpklmbefmfaa
open Go.RowKit
theorem ClsO.parts {m : List Cl} {css : List (List Value)} {L : List Ent} (h : ClsO m css L) : ∃ Ps : List (List Ent), Ps.length = m.length ∧ L = Ps.flatten ∧ ∀ (i : Nat) cl, m[i]? = some cl → ∃ cs P, css[i]? = some cs ∧ Ps[i]? = some P ∧ ClO cl cs P := by
  induction h with
  | nil => exact ⟨[], rfl, rfl, fun i cl hi => by simp at hi⟩
  | snoc h hr ih =>
    rename_i m css L c cs Lc
    obtain ⟨Ps, h1, rfl, h3⟩ := ih
    refine ⟨Ps ++ [Lc], by simp [h1], by simp, fun i cl hi => ?_⟩
    rcases Nat.lt_or_ge i m.length with hlt | hge
    · rw [List.getElem?_append_left hlt] at hi
      obtain ⟨cs2, P, h4, h5, h6⟩ := h3 i cl hi
      exact ⟨cs2, P, by rw [List.getElem?_append_left (by rw [h.len]; exact hlt)]; exact h4, by rw [List.getElem?_append_left (by rw [h1]; exact hlt)]; exact h5, h6⟩
    · rw [List.getElem?_append_right hge] at hi
      have h4 := (List.getElem?_eq_some_iff.1 hi).1
      simp at h4
      obtain rfl : i = m.length := by omega
      simp at hi
      subst hi
      exact ⟨cs, Lc, by rw [List.getElem?_append_right (by rw [h.len]; omega), h.len]; simp, by rw [List.getElem?_append_right (by rw [h1]; omega), h1]; simp, hr⟩
theorem flat_drop {Ps : List (List Ent)} {n : Nat} {P : List Ent} (h : Ps[n]? = some P) : (Ps.drop n).flatten = P ++ (Ps.drop (n + 1)).flatten := by
  obtain ⟨hlt, rfl⟩ := List.getElem?_eq_some_iff.1 h
  rw [List.drop_eq_getElem_cons hlt, List.flatten_cons]
theorem MsO.none {ls : List (List Ins)} {ms : List Value} {L : List Ent} (h : MsO ls ms L) (h0 : ls = []) : ms = [] ∧ L = [] := by
  cases h with
  | nil => exact ⟨rfl, rfl⟩
  | snoc h hr => simp at h0
theorem MsO.first {ls : List (List Ins)} {ms : List Value} {L : List Ent} (h : MsO ls ms L) : ∀ {l : List Ins}, ls[0]? = some l → ∃ A c Ll Lrest, ms[0]? = some (.slice A l.length c) ∧ Row 77 3 (.slice A l.length c) (icells l) Ll ∧ L = Ll ++ Lrest := by
  induction h with
  | nil => intro l hl; simp at hl
  | snoc h hr ih =>
    rename_i ls ms L A c l0 Ll
    intro l hl
    cases ls with
    | nil =>
      simp at hl
      subst hl
      obtain ⟨rfl, rfl⟩ := h.none rfl
      exact ⟨A, c, Ll, [], rfl, hr, by simp⟩
    | cons a ls =>
      obtain ⟨A2, c2, Ll2, Lr2, h1, h2, rfl⟩ := ih (l := l) (by simpa using hl)
      refine ⟨A2, c2, Ll2, Lr2 ++ Ll, ?_, h2, by simp⟩
      rw [List.getElem?_append_left (List.getElem?_eq_some_iff.1 h1).1]; exact h1
/-- The first instruction of a class's first method. -/
theorem ClO.first {cl : Cl} {cs : List Value} {P : List Ent} (h : ClO cl cs P) {l : List Ins} (hl : cl.methods[0]? = some l) (h0 : 0 < l.length) : ∃ mb cm ml ib ci junk Lf Lrest, cs[18]? = some (.slice (some ⟨mb, 0, none⟩) cl.methods.length cm) ∧ ml[0]? = some (.slice (some ⟨ib, 0, none⟩) l.length ci) ∧
    P = Lf ++ ((mb, cel 78 ml) :: ((ib, cel 77 (icells l ++ junk)) :: Lrest)) := by
  obtain ⟨h1, h2, Af, cf, Am, cm, ms, Lf, Lm, Ls, rfl, hf, hm, hms, rfl⟩ := h
  have hml : 0 < cl.methods.length := (List.getElem?_eq_some_iff.1 hl).1
  obtain ⟨mb, j1, rfl, rfl⟩ := hm.open hml
  obtain ⟨A, c, Ll, Lr, h3, h4, rfl⟩ := hms.first hl
  obtain ⟨ib, j2, rfl, rfl⟩ := h4.open h0
  exact ⟨mb, cm, ms ++ j1, ib, c, j2, Lf, Lr, (clCells_at h1).2.2, by rw [List.getElem?_append_left (List.getElem?_eq_some_iff.1 h3).1]; exact h3, by simp⟩
theorem flat_get19 {css : List (List Value)} {k j : Nat} {cs junk : List Value} {v : Value} (h : ∀ cs ∈ css, cs.length = 19) (hk : css[k]? = some cs) (hj : j < 19) (hv : cs[j]? = some v) : (css.flatten ++ junk)[0 + k * 19 + j]? = some v := by
  have := flat_at19 (junk := junk) h hk
  rw [← this, List.getElem?_take, if_pos hj, List.getElem?_drop] at hv
  rw [Nat.zero_add]; exact hv
theorem ins_first {l : List Ins} {x : Ins} {junk : List Value} (h : l[0]? = some x) : (icells l ++ junk)[0 + 0 * 3 + 0]? = some (.int .i64 x.op) := by
  cases l with
  | nil => simp at h
  | cons a l => simp at h; subst h; rfl
theorem first_op {m : List Cl} (h : (mcheckP m).2 = 0) {j : Nat} {cl : Cl} (hj : m[j]? = some cl) : ∃ l x, cl.methods[0]? = some l ∧ l[0]? = some x := by
  have hv := (mcheck_v h).2 cl (List.mem_of_getElem? hj)
  have hm := hv.nm
  obtain ⟨l, hl⟩ : ∃ l, cl.methods[0]? = some l := ⟨_, List.getElem?_eq_getElem (by omega)⟩
  have h2 := (hv.rows l (List.mem_of_getElem? hl)).len
  exact ⟨l, l[0]'(by omega), hl, List.getElem?_eq_getElem (by omega)⟩
theorem w64_ne (n : Int) : IntKind.i64.wrap (n + 1) ≠ n := by
  simp only [IntKind.wrap, IntKind.signed, IntKind.bits]
  simp
  omega
theorem allC_get {ms : List (List Cl)} {g k : Nat} {m : List Cl} {c : Cl} (h : ms[g]? = some m) (hk : m[k]? = some c) : (allC ms)[(allC (ms.take g)).length + k]? = some (g, c) := by
  obtain ⟨rest, hr⟩ := allC_at h hk
  have hkl := (List.getElem?_eq_some_iff.1 hk).1
  have : (allC (ms.take g) ++ (m.take k).map fun c => (g, c)).length = (allC (ms.take g)).length + k := by simp; omega
  rw [hr, ← this, List.getElem?_append_right (Nat.le_refl _), Nat.sub_self]
  rfl
theorem allC_len {ms : List (List Cl)} (h : ∀ m ∈ ms, m.length ≤ 8) : (allC ms).length ≤ 8 * ms.length := by
  have key : ∀ (l : List (List Cl × Nat)), (∀ p ∈ l, p.1.length ≤ 8) → (l.flatMap fun p => p.1.map fun c => (p.2, c)).length ≤ 8 * l.length := by
    intro l
    induction l with
    | nil => intro _; simp
    | cons a l ih =>
      intro hl
      have h1 := hl a (by simp)
      have h2 := ih (fun p hp => hl p (by simp [hp]))
      rw [List.flatMap_cons, List.length_append, List.length_map, List.length_cons]
      omega
  have := key ms.zipIdx (fun p hp => h p.1 (by
    obtain ⟨i, hi⟩ := List.getElem?_of_mem hp
    rw [List.getElem?_zipIdx] at hi
    cases hm : ms[i]? with
    | none => rw [hm] at hi; cases hi
    | some m => rw [hm] at hi; simp at hi; rw [← hi]; exact List.mem_of_getElem? hm))
  simpa [allC] using this
end Go.Proofs.Ytnebpklmbefmfaa
