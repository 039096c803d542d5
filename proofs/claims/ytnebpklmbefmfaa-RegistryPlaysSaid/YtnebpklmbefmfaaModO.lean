/- An argument that is a module, opened: classes, their faces, their methods. -/
import Derived.Test.YtnebpklmbefmfaaDecode
import Derived.Test.YtnebpklmbefmfaaOpen
set_option linter.unusedVariables false
set_option linter.unusedSimpArgs false
set_option maxRecDepth 20000
namespace Go.Proofs.Ytnebpklmbefmfaa
open Go.RowKit Go.ChangeShapes Go.WideShapes Go.Deep
theorem bytes_of {l : List Value} (h : ∀ i, i < l.length → ∃ n, l[i]? = some (.int .u8 n) ∧ (Lit.int .u8 n).wf = true) : ∃ id, Byt id ∧ l = gcells id := by
  induction l with
  | nil => exact ⟨[], fun _ h => (by cases h), rfl⟩
  | cons v l ih =>
    obtain ⟨n, hn, hw⟩ := h 0 (by simp)
    obtain ⟨id, hb, hid⟩ := ih (fun i hi => by have := h (i + 1) (by simpa using hi); simpa using this)
    refine ⟨n :: id, fun z hz => ?_, ?_⟩
    · rcases List.mem_cons.1 hz with rfl | hz
      · simp only [Lit.wf, IntKind.min, IntKind.max, IntKind.signed, IntKind.bits] at hw
        simp at hw
        omega
      · exact hb z hz
    simp at hn
    rw [hn, hid]; rfl
section
variable {H : Type} {ec : TypeId × Value → H} {w : World} {base : Nat} {spare : Nat → Bool} {held : Bool}
theorem guid_of_trod {fuel : Nat} {cs : List Value} {x : DataW H × List MemPlace} (h : DataW.trod ec Try.prog w base spare held fuel 47 cs = some x) : ∃ id : List Int, id.length = 16 ∧ Byt id ∧ cs = gcells id := by
  obtain ⟨xs, m, _, _, hl, hxl, hi⟩ := DataW.trod_array (n := 16) (e := 5) Try.underlying47 h
  have h16 : (Try.prog).cellsOf 47 = 16 := by kernel_rfl
  have h1 : (Try.prog).cellsOf 5 = 1 := by kernel_rfl
  rw [h16] at hl
  rw [h1] at hi
  obtain ⟨id, hb, hid⟩ := bytes_of (l := cs) (fun i hlt => by
    have h2 := hi i (by omega)
    rw [List.getElem?_eq_getElem (by omega)] at h2
    obtain ⟨n, hn, _, hw⟩ := DataW.trod_int (k := .u8) Try.underlying5 h2
    refine ⟨n, ?_, hw⟩
    have h3 := congrArg (fun l => l[0]?) hn
    simp only [List.getElem?_take, List.getElem?_drop, Nat.mul_one] at h3
    simpa using h3)
  refine ⟨id, ?_, hb, hid⟩
  rw [hid] at hl; simpa [gcells] using hl
theorem face_of_trod {fuel : Nat} {cs : List Value} {x : DataW H × List MemPlace} (h : DataW.trod ec Try.prog w base spare held fuel 93 cs = some x) : ∃ f : Face, (FaceOk f ∧ Byt f.id) ∧ cs = f.cells := by
  obtain ⟨xs, n, _, _, hl, hxl, hf⟩ := DataW.trod_struct Try.underlying93 h
  have h17 : (Try.prog).cellsOf 93 = 17 := by kernel_rfl
  have h16 : (Try.prog).cellsOf 47 = 16 := by kernel_rfl
  have h1 : (Try.prog).cellsOf 3 = 1 := by kernel_rfl
  rw [h17] at hl
  have a0 : DataW.trod ec Try.prog w base spare held n 47 ((cs.drop 0).take ((Try.prog).cellsOf 47)) = xs[0]? := hf 0 _ rfl
  have a1 : DataW.trod ec Try.prog w base spare held n 3 ((cs.drop 16).take ((Try.prog).cellsOf 3)) = xs[1]? := hf 1 _ rfl
  rw [h16] at a0
  rw [h1] at a1
  have hx2 : xs.length = 2 := hxl
  rw [List.getElem?_eq_getElem (by omega)] at a0 a1
  obtain ⟨id, hid, hby, e0⟩ := guid_of_trod a0
  obtain ⟨b, e1, _, _⟩ := DataW.trod_int (k := .i64) Try.underlying3 a1
  refine ⟨⟨id, b⟩, ⟨hid, hby⟩, ?_⟩
  rw [Face.cells, ← e0, ← e1, List.drop_zero]
  rw [show (cs.drop 16).take 1 = cs.drop 16 from List.take_of_length_le (by rw [List.length_drop]; omega)]
  exact (List.take_append_drop 16 cs).symm
theorem ins_of_trod {fuel : Nat} {cs : List Value} {x : DataW H × List MemPlace} (h : DataW.trod ec Try.prog w base spare held fuel 77 cs = some x) : ∃ f : Ins, True ∧ cs = f.cells := by
  obtain ⟨xs, n, _, _, hl, hxl, hf⟩ := DataW.trod_struct Try.underlying77 h
  have h3 : (Try.prog).cellsOf 77 = 3 := by kernel_rfl
  have h1 : (Try.prog).cellsOf 3 = 1 := by kernel_rfl
  rw [h3] at hl
  have hx3 : xs.length = 3 := hxl
  have a0 : DataW.trod ec Try.prog w base spare held n 3 ((cs.drop 0).take ((Try.prog).cellsOf 3)) = xs[0]? := hf 0 _ rfl
  have a1 : DataW.trod ec Try.prog w base spare held n 3 ((cs.drop 1).take ((Try.prog).cellsOf 3)) = xs[1]? := hf 1 _ rfl
  have a2 : DataW.trod ec Try.prog w base spare held n 3 ((cs.drop 2).take ((Try.prog).cellsOf 3)) = xs[2]? := hf 2 _ rfl
  rw [h1, List.getElem?_eq_getElem (by omega)] at a0 a1 a2
  obtain ⟨o, e0, _, _⟩ := DataW.trod_int (k := .i64) Try.underlying3 a0
  obtain ⟨a, e1, _, _⟩ := DataW.trod_int (k := .i64) Try.underlying3 a1
  obtain ⟨b, e2, _, _⟩ := DataW.trod_int (k := .i64) Try.underlying3 a2
  refine ⟨⟨o, a, b⟩, trivial, ?_⟩
  match cs, hl with
  | [c0, c1, c2], _ =>
    simp at e0 e1 e2
    rw [e0, e1, e2]; rfl
theorem okWide_array {n e : Nat} {t : TypeId} {r : Reach} {b0 : Nat} {v : Value} (ht : (Try.prog).underlying t = some (.array n e)) (h : Value.okWide Try.prog w r b0 t v) : ∃ cs, v = .agg cs ∧ cs.size = (Try.prog).cellsOf t := by
  unfold Value.okWide at h
  rw [ht] at h
  cases v <;> simp_all
theorem open_guid {v : Value} {r : Reach} {b0 : Nat} {d : DataW H} {p : List MemPlace} (hv : Value.okWide Try.prog w r b0 47 v) (h : DataW.Trod ec Try.prog w base spare held 47 v d p) : ∃ id : List Int, v = .agg (gcells id).toArray ∧ id.length = 16 ∧ Byt id := by
  obtain ⟨cs, rfl, _⟩ := okWide_array Try.underlying47 hv
  obtain ⟨fuel, hf⟩ := h
  obtain ⟨id, h1, hb, h2⟩ := guid_of_trod hf
  refine ⟨id, ?_, h1, hb⟩
  congr 1
  apply Array.ext'
  simpa [Value.cells] using h2
variable {α : Type} {enc : α → List Value} {OK : α → Prop}
theorem open_rowsC {t e sz : Nat} (ht : (Try.prog).underlying t = some (.slice e)) (hsz : (Try.prog).cellsOf e = sz) (h0 : 0 < sz) (hlen : ∀ f, OK f → (enc f).length = sz)
    (helem : ∀ fuel cs x, DataW.trod ec Try.prog w base spare held fuel e cs = some x → ∃ f, OK f ∧ cs = enc f) {fuel : Nat} {cs : List Value} {x : DataW H × List MemPlace} (h : DataW.trod ec Try.prog w base spare held fuel t cs = some x) : ∃ A n c fs, cs = [.slice A n c] ∧ RowOf OK enc w A n c fs := by
  rcases open_slice ht h with ⟨hcs, _⟩ | ⟨a, len, cap, m, k, D, Pl, hcs, _, hl, hm, hmm, _, hx⟩
  · exact ⟨none, 0, 0, [], hcs, rfl, Nat.le_refl _, by decide, by simp, Rd.nil _ _⟩
  · rw [hsz] at hx
    have hnm : len ≤ m := by rw [hmm]; split <;> omega
    have key : ∀ i, i < len → ∃ cs : List Value, (∃ f, OK f ∧ cs = enc f) ∧ ∀ j, j < sz → w.cell? ((a.add (i * sz)).add j) = cs[j]? := fun i hi => by
      obtain ⟨cs', h1, h2⟩ := hx i (by omega)
      obtain ⟨_, _, h3⟩ := World.cells?_some h1
      exact ⟨cs', helem _ _ _ h2, h3⟩
    obtain ⟨G, hG⟩ : ∃ G : Nat → List Value, ∀ i, i < len → (∃ f, OK f ∧ G i = enc f) ∧ ∀ j, j < sz → w.cell? ((a.add (i * sz)).add j) = (G i)[j]? := by
      refine ⟨fun i => if h : i < len then (key i h).choose else [], fun i hi => ?_⟩
      simp only [hi, dif_pos]
      exact (key i hi).choose_spec
    obtain ⟨fs, h1, h2, h3⟩ := elem_list (n := len) (g := G) (fun i hi => (hG i hi).1)
    refine ⟨some a, len, cap, fs, hcs, h1, hl, (by have : maxLen = 9223372036854775807 := rfl; omega), h2, ?_⟩
    rcases Nat.eq_zero_or_pos len with hn0 | hn0
    · rw [hn0] at h1
      rw [List.eq_nil_of_length_eq_zero h1]; exact Rd.nil _ _
    · have ha : a = ⟨a.block, a.off, none⟩ := by
        obtain ⟨f, hf, hgf⟩ := (hG 0 hn0).1
        have h5 := (hG 0 hn0).2 0 h0
        rw [hgf, List.getElem?_eq_getElem (by rw [hlen f hf]; exact h0)] at h5
        have e : (a.add (0 * sz)).add 0 = a := by simp [Addr.add]
        rw [e] at h5
        exact spot_none h5
      refine ⟨a.block, a.off, fun _ => by rw [← ha], ?_⟩
      refine flat_all (sz := sz) (rows := fs.map enc) (fun r hr => by obtain ⟨g, hg, rfl⟩ := List.mem_map.1 hr; exact hlen g (h2 g hg)) (fun i r hr j hj => ?_)
      rw [List.getElem?_map] at hr
      cases hfi : fs[i]? with
      | none => simp [hfi] at hr
      | some f =>
        rw [hfi] at hr
        simp at hr
        have hi : i < len := by have := (List.getElem?_eq_some_iff.1 hfi).1; omega
        have h6 := (hG i hi).2 j hj
        rw [h3 i f hfi, hr] at h6
        rw [← h6, ha, addr_add, addr_add]
theorem ecells_1 {β : Type} (f : β → Value) : ∀ l : List β, ecells (fun p => [f p]) l = l.map f
  | [] => rfl
  | x :: l => by
    have := ecells_1 f l
    simp only [ecells, List.map_cons, List.flatten_cons] at this ⊢
    rw [this]; rfl
/-- A row of instructions, behind one cell. -/
def InsAt (w : World) (p : List Ins × Value) : Prop := ∃ A c, p.2 = .slice A p.1.length c ∧ Rd w A (icells p.1)
theorem insrow_of_trod {fuel : Nat} {cs : List Value} {x : DataW H × List MemPlace} (h : DataW.trod ec Try.prog w base spare held fuel 78 cs = some x) : ∃ p : List Ins × Value, InsAt w p ∧ cs = [p.2] := by
  obtain ⟨A, n, c, l, e, h1, h2, h3, h4, h5⟩ := open_rowsC (OK := fun _ => True) (enc := Ins.cells) Try.underlying78 (by kernel_rfl) (by decide) (fun f _ => Ins.len f) (fun _ _ _ h => ins_of_trod h) h
  subst h1
  exact ⟨(l, .slice A l.length c), ⟨A, c, rfl, h5⟩, e⟩
theorem meths_of_trod {fuel : Nat} {cs : List Value} {x : DataW H × List MemPlace} (h : DataW.trod ec Try.prog w base spare held fuel 67 cs = some x) : ∃ A c ms, ∃ ls : List (List Ins), cs = [.slice A ls.length c] ∧ Rd w A ms ∧ MsR w ls ms := by
  obtain ⟨A, n, c, ps, e, h1, h2, h3, h4, h5⟩ := open_rowsC (OK := InsAt w) (enc := fun p => [p.2]) Try.underlying67 (by kernel_rfl) (by decide) (fun f _ => rfl) (fun _ _ _ h => insrow_of_trod h) h
  subst h1
  refine ⟨A, c, ps.map (·.2), ps.map (·.1), by rw [List.length_map]; exact e, by rw [← ecells_1]; exact h5, by simp, fun i l hl => ?_⟩
  rw [List.getElem?_map] at hl
  cases hp : ps[i]? with
  | none => rw [hp] at hl; cases hl
  | some p =>
    rw [hp] at hl
    simp only [Option.map_some, Option.some.injEq] at hl
    subst hl
    obtain ⟨A2, c2, h6, h7⟩ := h4 p (List.mem_of_getElem? hp)
    exact ⟨A2, c2, by rw [List.getElem?_map, hp]; exact congrArg some h6, h7⟩
theorem facerow_of_trod {fuel : Nat} {cs : List Value} {x : DataW H × List MemPlace} (h : DataW.trod ec Try.prog w base spare held fuel 66 cs = some x) : ∃ A c, ∃ fs : List Face, cs = [.slice A fs.length c] ∧ (∀ f ∈ fs, FaceOk f ∧ Byt f.id) ∧ Rd w A (fcells fs) := by
  obtain ⟨A, n, c, l, e, h1, h2, h3, h4, h5⟩ := open_rowsC (OK := fun f => FaceOk f ∧ Byt f.id) (enc := Face.cells) Try.underlying66 (by kernel_rfl) (by decide) (fun f hf => Face.len hf.1) (fun _ _ _ h => face_of_trod h) h
  subst h1
  exact ⟨A, c, l, e, h4, h5⟩
def ClsAt (w : World) (p : Cl × List Value) : Prop := ClR w p.1 p.2 ∧ ClB p.1
theorem class_of_trod {fuel : Nat} {cs : List Value} {x : DataW H × List MemPlace} (h : DataW.trod ec Try.prog w base spare held fuel 69 cs = some x) : ∃ p : Cl × List Value, ClsAt w p ∧ cs = p.2 := by
  obtain ⟨xs, n, _, _, hl, hxl, hf⟩ := DataW.trod_struct Try.underlying69 h
  have h19 : (Try.prog).cellsOf 69 = 19 := by kernel_rfl
  have h16 : (Try.prog).cellsOf 47 = 16 := by kernel_rfl
  have h1 : (Try.prog).cellsOf 3 = 1 := by kernel_rfl
  have h2 : (Try.prog).cellsOf 66 = 1 := by kernel_rfl
  have h3 : (Try.prog).cellsOf 67 = 1 := by kernel_rfl
  rw [h19] at hl
  have a0 : DataW.trod ec Try.prog w base spare held n 47 ((cs.drop 0).take ((Try.prog).cellsOf 47)) = xs[0]? := hf 0 _ rfl
  have a1 : DataW.trod ec Try.prog w base spare held n 66 ((cs.drop 16).take ((Try.prog).cellsOf 66)) = xs[1]? := hf 1 _ rfl
  have a2 : DataW.trod ec Try.prog w base spare held n 3 ((cs.drop 17).take ((Try.prog).cellsOf 3)) = xs[2]? := hf 2 _ rfl
  have a3 : DataW.trod ec Try.prog w base spare held n 67 ((cs.drop 18).take ((Try.prog).cellsOf 67)) = xs[3]? := hf 3 _ rfl
  rw [h16] at a0
  rw [h2] at a1
  rw [h1] at a2
  rw [h3] at a3
  have hx4 : xs.length = 4 := hxl
  rw [List.getElem?_eq_getElem (by omega)] at a0 a1 a2 a3
  obtain ⟨id, hid, hby, e0⟩ := guid_of_trod a0
  obtain ⟨Af, cf, fs, e1, hfs, hrf⟩ := facerow_of_trod a1
  obtain ⟨s, e2, _, _⟩ := DataW.trod_int (k := .i64) Try.underlying3 a2
  obtain ⟨Am, cm, ms, ls, e3, hrm, hms⟩ := meths_of_trod a3
  refine ⟨(⟨id, fs, s, ls⟩, clCells id (.slice Af fs.length cf) s (.slice Am ls.length cm)), ⟨⟨hid, fun f hf => (hfs f hf).1, Af, cf, Am, cm, ms, rfl, hrf, hrm, hms⟩, hby, fun f hf => (hfs f hf).2⟩, ?_⟩
  have e : cs = (cs.drop 0).take 16 ++ ((cs.drop 16).take 1 ++ ((cs.drop 17).take 1 ++ (cs.drop 18).take 1)) := by
    have k1 : (cs.drop 18).take 1 = cs.drop 18 := List.take_of_length_le (by rw [List.length_drop]; omega)
    have k2 : (cs.drop 17).take 1 ++ cs.drop 18 = cs.drop 17 := by have := List.take_append_drop 1 (cs.drop 17); rwa [List.drop_drop] at this
    have k3 : (cs.drop 16).take 1 ++ cs.drop 17 = cs.drop 16 := by have := List.take_append_drop 1 (cs.drop 16); rwa [List.drop_drop] at this
    rw [k1, k2, k3, List.drop_zero, List.take_append_drop]
  rw [e0, e1, e2, e3] at e
  rw [e]; rfl
theorem open_mod {v : Value} {r : Reach} {b0 : Nat} {d : DataW H} {p : List MemPlace} (hv : Value.okWide Try.prog w r b0 30 v) (h : DataW.Trod ec Try.prog w base spare held 30 v d p) : ∃ A n, ∃ m : List Cl, v = .agg #[.slice A m.length n] ∧ ModR w m A ∧ ∀ c ∈ m, ClB c := by
  obtain ⟨vs, rfl, _⟩ := okWide_struct Try.underlying30 hv
  obtain ⟨fuel, hf⟩ := h
  obtain ⟨xs, n, _, _, hl, hxl, hf⟩ := DataW.trod_struct Try.underlying30 hf
  have h1 : (Try.prog).cellsOf 30 = 1 := by kernel_rfl
  have h2 : (Try.prog).cellsOf 28 = 1 := by kernel_rfl
  rw [h1] at hl
  have a0 : DataW.trod ec Try.prog w base spare held n 28 (((Value.agg vs).cells.toList.drop 0).take ((Try.prog).cellsOf 28)) = xs[0]? := hf 0 _ rfl
  have hx1 : xs.length = 1 := hxl
  rw [h2, List.getElem?_eq_getElem (by omega)] at a0
  obtain ⟨A, k, c, ps, e, g1, g2, g3, g4, g5⟩ := open_rowsC (OK := ClsAt w) (enc := fun p => p.2) Try.underlying28 (by kernel_rfl) (by decide) (fun f hf => hf.1.len) (fun _ _ _ h => class_of_trod h) a0
  subst g1
  refine ⟨A, c, ps.map (fun p : Cl × List Value => p.1), ?_, ⟨ps.map (fun p : Cl × List Value => p.2), by simp, g5, fun i cl hi => ?_⟩, fun cl hcl => ?_⟩
  · congr 1
    apply Array.ext'
    rw [List.drop_zero, List.take_of_length_le (by omega)] at e
    rw [List.length_map]
    exact e
  · rw [List.getElem?_map] at hi
    cases hp : ps[i]? with
    | none => rw [hp] at hi; cases hi
    | some p =>
      rw [hp] at hi
      simp only [Option.map_some, Option.some.injEq] at hi
      subst hi
      exact ⟨p.2, by rw [List.getElem?_map, hp]; rfl, (g4 p (List.mem_of_getElem? hp)).1⟩
  · obtain ⟨p, hp, rfl⟩ := List.mem_map.1 hcl
    exact (g4 p hp).2
end
theorem byte_of_trod {H : Type} {ec : TypeId × Value → H} {w : World} {base : Nat} {spare : Nat → Bool} {held : Bool} {fuel : Nat} {cs : List Value} {x : DataW H × List MemPlace} (h : DataW.trod ec Try.prog w base spare held fuel 5 cs = some x) : ∃ n : Int, (0 ≤ n ∧ n ≤ 255) ∧ cs = [.int .u8 n] := by
  obtain ⟨n, hn, _, hw⟩ := DataW.trod_int (k := .u8) Try.underlying5 h
  refine ⟨n, ?_, hn⟩
  simp only [Lit.wf, IntKind.min, IntKind.max, IntKind.signed, IntKind.bits] at hw
  simp at hw
  omega
theorem open_bytes {H : Type} {ec : TypeId × Value → H} {w : World} {base : Nat} {spare : Nat → Bool} {held : Bool} {v : Value} {r : Reach} {b0 : Nat} {d : DataW H} {p : List MemPlace} (hv : Value.okWide Try.prog w r b0 84 v) (h : DataW.Trod ec Try.prog w base spare held 84 v d p) : ∃ A c, ∃ r : List Int, v = .slice A r.length c ∧ r.length ≤ c ∧ c ≤ 9223372036854775807 ∧ Byt r ∧ Rd w A (gcells r) := by
  obtain ⟨A, n, c, fs, rfl, h1, h2, h3, h4, h5⟩ := open_rows (OK := fun n : Int => 0 ≤ n ∧ n ≤ 255) (enc := fun n => [Value.int .u8 n]) Try.underlying84 (by kernel_rfl) (by decide) (fun _ _ => rfl) (fun _ _ _ h => byte_of_trod h) hv h
  subst h1
  exact ⟨A, c, fs, rfl, h2, h3, h4, by rw [show gcells fs = ecells (fun n => [Value.int .u8 n]) fs from (ecells_1 (fun n => Value.int .u8 n) fs).symm]; exact h5⟩
theorem u8_rng {n : Int} (h : (Lit.int .u8 n).wf = true) : 0 ≤ n ∧ n ≤ 255 := by
  simp only [Lit.wf, IntKind.min, IntKind.max, IntKind.signed, IntKind.bits] at h
  simp at h
  omega
end Go.Proofs.Ytnebpklmbefmfaa
