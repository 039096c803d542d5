/- An argument that is a slice, opened: what the walks ask of it. -/
import Derived.Test.YtnebpklmbefmfaaInts
import Derived.Deep.Slices
import Derived.OpenShut
import Derived.ChangeShapes
set_option linter.unusedVariables false
namespace Go.Proofs.Ytnebpklmbefmfaa
open Go.RowKit Go.ChangeShapes Go.WideShapes Go.Deep
theorem elem_list {α : Type} {OK : α → Prop} {enc : α → List Value} {n : Nat} {g : Nat → List Value} : (∀ i, i < n → ∃ f, OK f ∧ g i = enc f) → ∃ fs : List α, fs.length = n ∧ (∀ f ∈ fs, OK f) ∧ ∀ (i : Nat) f, fs[i]? = some f → g i = enc f := by
  induction n with
  | zero => exact fun _ => ⟨[], rfl, by simp, by simp⟩
  | succ n ih =>
    intro h
    obtain ⟨fs, h1, h2, h3⟩ := ih (fun i hi => h i (by omega))
    obtain ⟨f, hf, hg⟩ := h n (by omega)
    refine ⟨fs ++ [f], by simp [h1], fun x hx => ?_, fun i x hx => ?_⟩
    · rcases List.mem_append.1 hx with hx | hx
      · exact h2 x hx
      · rw [List.mem_singleton] at hx; exact hx ▸ hf
    · rcases Nat.lt_or_ge i n with hlt | hge
      · rw [List.getElem?_append_left (by omega)] at hx; exact h3 i x hx
      · rw [List.getElem?_append_right (by omega)] at hx
        have h4 := (List.getElem?_eq_some_iff.1 hx).1
        simp at h4
        obtain rfl : i = n := by omega
        simp [h1] at hx
        rw [← hx]; exact hg
section
variable {H : Type} {ec : TypeId × Value → H} {w : World} {base : Nat} {spare : Nat → Bool} {held : Bool} {α : Type} {enc : α → List Value} {OK : α → Prop}
/-- What a slice of such elements reads as. -/
def RowOf (OK : α → Prop) (enc : α → List Value) (w : World) (A : Option Addr) (n c : Nat) (fs : List α) : Prop := fs.length = n ∧ n ≤ c ∧ c ≤ 9223372036854775807 ∧ (∀ f ∈ fs, OK f) ∧ Rd w A (ecells enc fs)
set_option maxRecDepth 20000 in
theorem open_rows {t e sz : Nat} (ht : (Try.prog).underlying t = some (.slice e)) (hsz : (Try.prog).cellsOf e = sz) (h0 : 0 < sz) (hlen : ∀ f, OK f → (enc f).length = sz)
    (helem : ∀ fuel cs x, DataW.trod ec Try.prog w base spare held fuel e cs = some x → ∃ f, OK f ∧ cs = enc f) {v : Value} {r : Reach} {b0 : Nat} {d : DataW H} {p : List MemPlace} (hv : Value.okWide Try.prog w r b0 t v) (h : DataW.Trod ec Try.prog w base spare held t v d p) : ∃ A n c fs, v = .slice A n c ∧ RowOf OK enc w A n c fs := by
  obtain ⟨A, n, c, rfl⟩ := okWide_slice ht hv
  obtain ⟨fuel, hf⟩ := h
  refine ⟨A, n, c, ?_⟩
  rcases open_slice ht hf with ⟨hcs, _⟩ | ⟨a, len, cap, m, k, D, Pl, hcs, _, hl, hm, hmm, _, hx⟩
  · simp [Value.cells] at hcs
    obtain ⟨rfl, rfl, rfl⟩ := hcs
    exact ⟨[], rfl, rfl, Nat.le_refl _, by decide, by simp, Rd.nil _ _⟩
  · simp [Value.cells] at hcs
    obtain ⟨rfl, rfl, rfl⟩ := hcs
    rw [hsz] at hx
    have hnm : n ≤ m := by rw [hmm]; split <;> omega
    have key : ∀ i, i < n → ∃ cs : List Value, (∃ f, OK f ∧ cs = enc f) ∧ ∀ j, j < sz → w.cell? ((a.add (i * sz)).add j) = cs[j]? := fun i hi => by
      obtain ⟨cs', h1, h2⟩ := hx i (by omega)
      obtain ⟨_, _, h3⟩ := World.cells?_some h1
      exact ⟨cs', helem _ _ _ h2, h3⟩
    obtain ⟨G, hG⟩ : ∃ G : Nat → List Value, ∀ i, i < n → (∃ f, OK f ∧ G i = enc f) ∧ ∀ j, j < sz → w.cell? ((a.add (i * sz)).add j) = (G i)[j]? := by
      refine ⟨fun i => if h : i < n then (key i h).choose else [], fun i hi => ?_⟩
      simp only [hi, dif_pos]
      exact (key i hi).choose_spec
    obtain ⟨fs, h1, h2, h3⟩ := elem_list (n := n) (g := G) (fun i hi => (hG i hi).1)
    refine ⟨fs, rfl, h1, hl, (by have : maxLen = 9223372036854775807 := rfl; omega), h2, ?_⟩
    rcases Nat.eq_zero_or_pos n with hn0 | hn0
    · subst hn0
      rw [List.eq_nil_of_length_eq_zero h1]; exact Rd.nil _ _
    · have ha : a = ⟨a.block, a.off, none⟩ := by
        obtain ⟨f, hf, hgf⟩ := (hG 0 hn0).1
        have h5 := (hG 0 hn0).2 0 h0
        rw [hgf, List.getElem?_eq_getElem (by rw [hlen f hf]; exact h0)] at h5
        have e : (a.add (0 * sz)).add 0 = a := by simp [Addr.add]
        rw [e] at h5
        exact spot_none h5
      refine ⟨a.block, a.off, fun _ => by rw [← ha], ?_⟩
      refine flat_all (sz := sz) (rows := fs.map enc) (fun r hr => by obtain ⟨g, hg, rfl⟩ := List.mem_map.1 hr; exact hlen g (h2 g hg)) (fun i r hr j hj => ?_)
      rw [List.getElem?_map] at hr
      cases hfi : fs[i]? with
      | none => simp [hfi] at hr
      | some f =>
        rw [hfi] at hr
        simp at hr
        have hi : i < n := by have := (List.getElem?_eq_some_iff.1 hfi).1; omega
        have h6 := (hG i hi).2 j hj
        rw [h3 i f hfi, hr] at h6
        rw [← h6, ha, addr_add, addr_add]
end
end Go.Proofs.Ytnebpklmbefmfaa
