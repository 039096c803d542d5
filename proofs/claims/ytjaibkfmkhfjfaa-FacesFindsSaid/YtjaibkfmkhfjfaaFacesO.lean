/- An argument that is a slice of faces, opened: what the walks ask of it. -/
import Derived.Test.YtjaibkfmkhfjfaaFacesL
import Derived.Deep.Slices
import Derived.OpenShut
import Derived.ChangeShapes
set_option linter.unusedVariables false
namespace Go.Proofs.Ytjaibkfmkhfjfaa
open Go.RowKit Go.ChangeShapes Go.WideShapes Go.Deep
theorem bytes_of {l : List Value} (h : ∀ i, i < l.length → ∃ n, l[i]? = some (.int .u8 n)) : ∃ id, l = gcells id := by
  induction l with
  | nil => exact ⟨[], rfl⟩
  | cons v l ih =>
    obtain ⟨n, hn⟩ := h 0 (by simp)
    obtain ⟨id, hid⟩ := ih (fun i hi => by have := h (i + 1) (by simpa using hi); simpa using this)
    refine ⟨n :: id, ?_⟩
    simp at hn
    rw [hn, hid]; rfl
section
variable {H : Type} {enc : TypeId × Value → H} {w : World} {base : Nat} {spare : Nat → Bool} {held : Bool}
theorem guid_of_trod {fuel : Nat} {cs : List Value} {x : DataW H × List MemPlace} (h : DataW.trod enc Try.prog w base spare held fuel 28 cs = some x) : ∃ id : List Int, id.length = 16 ∧ cs = gcells id := by
  obtain ⟨xs, m, _, _, hl, hxl, hi⟩ := DataW.trod_array (n := 16) (e := 5) Try.underlying28 h
  have h16 : (Try.prog).cellsOf 28 = 16 := by kernel_rfl
  have h1 : (Try.prog).cellsOf 5 = 1 := by kernel_rfl
  rw [h16] at hl
  rw [h1] at hi
  obtain ⟨id, hid⟩ := bytes_of (l := cs) (fun i hlt => by
    have h2 := hi i (by omega)
    rw [List.getElem?_eq_getElem (by omega)] at h2
    obtain ⟨n, hn, _, _⟩ := DataW.trod_int (k := .u8) Try.underlying5 h2
    refine ⟨n, ?_⟩
    have h3 := congrArg (fun l => l[0]?) hn
    simp only [List.getElem?_take, List.getElem?_drop, Nat.mul_one] at h3
    simpa using h3)
  refine ⟨id, ?_, hid⟩
  rw [hid] at hl; simpa [gcells] using hl
theorem face_of_trod {fuel : Nat} {cs : List Value} {x : DataW H × List MemPlace} (h : DataW.trod enc Try.prog w base spare held fuel 30 cs = some x) : ∃ f : Face, FaceOk f ∧ cs = f.cells := by
  obtain ⟨xs, n, _, _, hl, hxl, hf⟩ := DataW.trod_struct Try.underlying30 h
  have h17 : (Try.prog).cellsOf 30 = 17 := by kernel_rfl
  have h16 : (Try.prog).cellsOf 28 = 16 := by kernel_rfl
  have h1 : (Try.prog).cellsOf 3 = 1 := by kernel_rfl
  rw [h17] at hl
  have a0 : DataW.trod enc Try.prog w base spare held n 28 ((cs.drop 0).take ((Try.prog).cellsOf 28)) = xs[0]? := hf 0 _ rfl
  have a1 : DataW.trod enc Try.prog w base spare held n 3 ((cs.drop 16).take ((Try.prog).cellsOf 3)) = xs[1]? := hf 1 _ rfl
  rw [h16] at a0
  rw [h1] at a1
  have hx2 : xs.length = 2 := hxl
  rw [List.getElem?_eq_getElem (by omega)] at a0 a1
  obtain ⟨id, hid, e0⟩ := guid_of_trod a0
  obtain ⟨b, e1, _, _⟩ := DataW.trod_int (k := .i64) Try.underlying3 a1
  refine ⟨⟨id, b⟩, hid, ?_⟩
  rw [Face.cells, ← e0, ← e1, List.drop_zero]
  rw [show (cs.drop 16).take 1 = cs.drop 16 from List.take_of_length_le (by rw [List.length_drop]; omega)]
  exact (List.take_append_drop 16 cs).symm
/-- What a row of faces reads as. -/
def FaceRow (w : World) (A : Option Addr) (n c : Nat) (fs : List Face) : Prop := fs.length = n ∧ n ≤ c ∧ c ≤ 9223372036854775807 ∧ (∀ f ∈ fs, FaceOk f) ∧ Rd w A (fcells fs)
theorem face_list {n : Nat} {g : Nat → List Value} : (∀ i, i < n → ∃ f, FaceOk f ∧ g i = f.cells) → ∃ fs : List Face, fs.length = n ∧ (∀ f ∈ fs, FaceOk f) ∧ ∀ i f, fs[i]? = some f → g i = f.cells := by
  induction n with
  | zero => exact fun _ => ⟨[], rfl, by simp, by simp⟩
  | succ n ih =>
    intro h
    obtain ⟨fs, h1, h2, h3⟩ := ih (fun i hi => h i (by omega))
    obtain ⟨f, hf, hg⟩ := h n (by omega)
    refine ⟨fs ++ [f], by simp [h1], fun x hx => ?_, fun i x hx => ?_⟩
    · rcases List.mem_append.1 hx with hx | hx
      · exact h2 x hx
      · rw [List.mem_singleton] at hx; exact hx ▸ hf
    · rcases Nat.lt_or_ge i n with hlt | hge
      · rw [List.getElem?_append_left (by omega)] at hx; exact h3 i x hx
      · rw [List.getElem?_append_right (by omega)] at hx
        have h4 := (List.getElem?_eq_some_iff.1 hx).1
        simp at h4
        obtain rfl : i = n := by omega
        simp [h1] at hx
        rw [← hx]; exact hg
theorem flat_all {sz b o : Nat} {w : World} : ∀ {rows : List (List Value)} (_ : ∀ r ∈ rows, r.length = sz), (∀ i r, rows[i]? = some r → ∀ j, j < sz → w.cell? ⟨b, o + i * sz + j, none⟩ = r[j]?) → CellsAt w b o rows.flatten
  | [], _, _, j, v, h => by simp at h
  | r0 :: rows, hall, hc, j, v, h => by
    have h0 := hall r0 (by simp)
    rw [List.flatten_cons] at h
    rcases Nat.lt_or_ge j sz with hlt | hge
    · rw [List.getElem?_append_left (by omega)] at h
      have := hc 0 r0 rfl j hlt
      rw [Nat.zero_mul, Nat.add_zero] at this
      rw [this, h]
    · rw [List.getElem?_append_right (by omega), h0] at h
      have := flat_all (b := b) (o := o + sz) (w := w) (rows := rows) (fun r hr => hall r (by simp [hr])) (fun i r hr j hj => by
        have := hc (i + 1) r (by simpa using hr) j hj
        rw [Nat.add_mul, Nat.one_mul] at this
        rw [← this, show o + sz + i * sz + j = o + (i * sz + sz) + j by omega]) (j - sz) v h
      rw [← this, show o + sz + (j - sz) = o + j by omega]
theorem spot_none {w : World} {a : Addr} {v : Value} (h : w.cell? a = some v) : a = ⟨a.block, a.off, none⟩ := by
  obtain ⟨b, o, s⟩ := a
  cases s with
  | none => rfl
  | some x =>
    exfalso
    unfold World.cell? at h
    simp only [Option.isSome_some, if_true] at h
    split at h <;> simp_all
theorem open_faces {v : Value} {r : Reach} {b0 : Nat} {d : DataW H} {p : List MemPlace} (hv : Value.okWide Try.prog w r b0 22 v) (h : DataW.Trod enc Try.prog w base spare held 22 v d p) : ∃ A n c fs, v = .slice A n c ∧ FaceRow w A n c fs := by
  obtain ⟨A, n, c, rfl⟩ := okWide_slice Try.underlying22 hv
  obtain ⟨fuel, hf⟩ := h
  refine ⟨A, n, c, ?_⟩
  rcases open_slice Try.underlying22 hf with ⟨hcs, _⟩ | ⟨a, len, cap, m, k, D, Pl, hcs, _, hl, hm, hmm, _, hx⟩
  · simp [Value.cells] at hcs
    obtain ⟨rfl, rfl, rfl⟩ := hcs
    exact ⟨[], rfl, rfl, Nat.le_refl _, by decide, by simp, Rd.nil _ _⟩
  · simp [Value.cells] at hcs
    obtain ⟨rfl, rfl, rfl⟩ := hcs
    have h17 : (Try.prog).cellsOf 30 = 17 := by kernel_rfl
    rw [h17] at hx
    have hnm : n ≤ m := by rw [hmm]; split <;> omega
    have key : ∀ i, i < n → ∃ cs : List Value, (∃ f, FaceOk f ∧ cs = f.cells) ∧ ∀ j, j < 17 → w.cell? ((a.add (i * 17)).add j) = cs[j]? := fun i hi => by
      obtain ⟨cs', h1, h2⟩ := hx i (by omega)
      obtain ⟨_, _, h3⟩ := World.cells?_some h1
      exact ⟨cs', face_of_trod h2, h3⟩
    obtain ⟨G, hG⟩ : ∃ G : Nat → List Value, ∀ i, i < n → (∃ f, FaceOk f ∧ G i = f.cells) ∧ ∀ j, j < 17 → w.cell? ((a.add (i * 17)).add j) = (G i)[j]? := by
      refine ⟨fun i => if h : i < n then (key i h).choose else [], fun i hi => ?_⟩
      simp only [hi, dif_pos]
      exact (key i hi).choose_spec
    obtain ⟨fs, h1, h2, h3⟩ := face_list (n := n) (g := G) (fun i hi => (hG i hi).1)
    refine ⟨fs, rfl, h1, hl, (by have : maxLen = 9223372036854775807 := rfl; omega), h2, ?_⟩
    rcases Nat.eq_zero_or_pos n with h0 | h0
    · subst h0
      rw [List.eq_nil_of_length_eq_zero h1]; exact Rd.nil _ _
    · have ha : a = ⟨a.block, a.off, none⟩ := by
        obtain ⟨f, hf, hgf⟩ := (hG 0 h0).1
        have h5 := (hG 0 h0).2 0 (by decide)
        rw [hgf, List.getElem?_eq_getElem (by rw [Face.len hf]; decide)] at h5
        have e : (a.add (0 * 17)).add 0 = a := by simp [Addr.add]
        rw [e] at h5
        exact spot_none h5
      refine ⟨a.block, a.off, fun _ => by rw [← ha], ?_⟩
      refine flat_all (sz := 17) (rows := fs.map Face.cells) (fun r hr => by obtain ⟨g, hg, rfl⟩ := List.mem_map.1 hr; exact Face.len (h2 g hg)) (fun i r hr j hj => ?_)
      rw [List.getElem?_map] at hr
      cases hfi : fs[i]? with
      | none => simp [hfi] at hr
      | some f =>
        rw [hfi] at hr
        simp at hr
        have hi : i < n := by have := (List.getElem?_eq_some_iff.1 hfi).1; omega
        have h6 := (hG i hi).2 j hj
        rw [h3 i f hfi, hr] at h6
        rw [← h6, ha, addr_add, addr_add]
theorem okWide_array {n e : Nat} {t : TypeId} {r : Reach} {b0 : Nat} {v : Value} (ht : (Try.prog).underlying t = some (.array n e)) (h : Value.okWide Try.prog w r b0 t v) : ∃ cs, v = .agg cs ∧ cs.size = (Try.prog).cellsOf t := by
  unfold Value.okWide at h
  rw [ht] at h
  cases v <;> simp_all
theorem open_guid {v : Value} {r : Reach} {b0 : Nat} {d : DataW H} {p : List MemPlace} (hv : Value.okWide Try.prog w r b0 28 v) (h : DataW.Trod enc Try.prog w base spare held 28 v d p) : ∃ id : List Int, v = .agg (gcells id).toArray ∧ id.length = 16 := by
  obtain ⟨cs, rfl, _⟩ := okWide_array Try.underlying28 hv
  obtain ⟨fuel, hf⟩ := h
  obtain ⟨id, h1, h2⟩ := guid_of_trod hf
  refine ⟨id, ?_, h1⟩
  congr 1
  apply Array.ext'
  simpa [Value.cells] using h2
end
end Go.Proofs.Ytjaibkfmkhfjfaa
