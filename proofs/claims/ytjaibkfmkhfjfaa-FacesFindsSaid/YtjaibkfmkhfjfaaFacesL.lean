/- The faces' laws in plain Lean: a right row's beginning is right; its lines fall to 0; what two have in common. -/
import Derived.Test.YtjaibkfmkhfjfaaFacesP
import Derived.Test.YtjaibkfmkhfjfaaSymMore
import Derived.Test.YtjaibkfmkhfjfaaSymAny
set_option linter.unusedVariables false
namespace Go.Proofs.Ytjaibkfmkhfjfaa
open Go.RowKit
theorem rd_own {w0 w : World} {S : List Nat} {L : List Ent} {b t : Nat} {l : List Value} (hst : St w0 S w L) [hm : HasE b (cel t l) L] : Rd w (some ⟨b, 0, none⟩) l := ⟨b, 0, fun _ => rfl, by simpa using hst.cellsO hm.out 0⟩
theorem row_rd {e sz m cp : Nat} {A : Option Addr} {xs : List Value} {Lr L : List Ent} {w0 w : World} {S : List Nat} (h : Row e sz (.slice A m cp) xs Lr) (hst : St w0 S w L) (hs : ∀ p ∈ Lr, p ∈ L) : Rd w A xs := by
  obtain ⟨A2, m2, cp2, e1, _, _, h2⟩ := h.rd hst hs
  cases e1; exact h2
theorem threeF_rd {w0 w : World} {S : List Nat} {L : List Ent} {b t : Nat} (hst : St w0 S w L) [hm : HasE b (cel t (fcells threeF)) L] : Rd w (some ⟨b, 0, none⟩) (fcells threeF) := rd_own hst
theorem threeF_take : (lineP threeF 2).take 9 = [2, 1, 0] := by decide
theorem el_face : ElT Try.prog 30 17 24 [.int .u8 0, .int .u8 0, .int .u8 0, .int .u8 0, .int .u8 0, .int .u8 0, .int .u8 0, .int .u8 0, .int .u8 0, .int .u8 0, .int .u8 0, .int .u8 0, .int .u8 0, .int .u8 0, .int .u8 0, .int .u8 0, .int .i64 0] := ElT.mk' (by kernel_rfl) zt30 rfl rfl
theorem fcells_app {fs gs : List Face} : fcells (fs ++ gs) = fcells fs ++ fcells gs := by simp [fcells]
theorem fcells_one {fs : List Face} : ∀ u ∈ fcells fs, u.oneCell' = true := by
  intro u hu
  unfold fcells at hu
  obtain ⟨l, hl, hu⟩ := List.mem_flatten.1 hu
  obtain ⟨f, _, rfl⟩ := List.mem_map.1 hl
  exact face_one f u hu
theorem own_face {fs : List Face} {junk : List Value} (hok : ∀ f ∈ fs, FaceOk f) {i : Nat} {f : Face} (hf : fs[i]? = some f) : ((fcells fs ++ junk).drop (0 + i * 17)).take 17 = f.cells := by
  have hi := (List.getElem?_eq_some_iff.1 hf).1
  have h1 := flat_get (sz := 17) (rows := fs.map Face.cells) (fun r hr => by obtain ⟨g, hg, rfl⟩ := List.mem_map.1 hr; exact Face.len (hok g hg)) i f.cells (by simp [hf])
  have h2 := fcells_len hok
  rw [Nat.zero_add, List.drop_append_of_le_length (by omega), List.take_append_of_le_length (by rw [List.length_drop]; omega)]
  exact h1
theorem rd_take {w : World} {A : Option Addr} {fs : List Face} {k : Nat} (h : Rd w A (fcells fs)) : Rd w A (fcells (fs.take k)) := by
  obtain ⟨b, o, h1, h2⟩ := h
  have e : fcells fs = fcells (fs.take k) ++ fcells (fs.drop k) := by rw [← fcells_app, List.take_append_drop]
  refine ⟨b, o, fun h => h1 (by rw [e, List.length_append]; omega), fun j v hv => h2 j v ?_⟩
  rw [e, List.getElem?_append_left (List.getElem?_eq_some_iff.1 hv).1]; exact hv
theorem ok_take {fs : List Face} (h : ∀ f ∈ fs, FaceOk f) {k : Nat} : ∀ f ∈ fs.take k, FaceOk f := fun f hf => h f (List.mem_of_mem_take hf)
/-- What 'Pick' gives for a row that is not empty. -/
theorem pick_some {x : Int} {n : Nat} (h : 1 ≤ n) : ∃ q : Nat, (if (n : Int) < 1 then 0 else x % (n : Int)) = (q : Int) ∧ q < n := by
  rw [if_neg (by omega)]
  have h1 := Int.emod_nonneg x (show (n : Int) ≠ 0 by omega)
  have h2 := Int.emod_lt_of_pos x (show (0 : Int) < n by omega)
  exact ⟨(x % (n : Int)).toNat, by omega, by omega⟩
/-! A right row. -/
structure Right (fs : List Face) : Prop where
  one : 1 ≤ fs.length
  most : fs.length ≤ 16
  base : ∀ i f, fs[i]? = some f → ¬ badBase i f.base
  alone : ∀ i f, fs[i]? = some f → twin fs i f = false
theorem verF_none {fs : List Face} {i : Nat} {f : Face} : verF fs i f = none ↔ ¬ badBase i f.base ∧ twin fs i f = false := by
  unfold verF
  by_cases h : badBase i f.base
  · simp [h]
  · by_cases h2 : twin fs i f = true
    · simp [h, h2]
    · simp [h, h2]
theorem verF_pos {fs : List Face} {i : Nat} {f : Face} {e : Int} (h : verF fs i f = some e) : e ≠ 0 := by
  unfold verF at h
  split at h
  · injection h with h; omega
  · split at h
    · injection h with h; omega
    · cases h
theorem right_iff {fs : List Face} : checkP fs = 0 ↔ Right fs := by
  unfold checkP
  by_cases hl : fs.length < 1 ∨ 16 < fs.length
  · rw [if_pos hl]
    refine ⟨fun h => by omega, fun h => ?_⟩
    have := h.one; have := h.most; omega
  · rw [if_neg hl]
    cases hs : (List.range fs.length).findSome? (verI fs) with
    | some e =>
      obtain ⟨i, hi, he⟩ := List.exists_of_findSome?_eq_some hs
      unfold verI at he
      cases hf : fs[i]? with
      | none => rw [hf] at he; cases he
      | some f =>
        rw [hf] at he
        have h0 := verF_pos he
        refine ⟨fun h => absurd h h0, fun h => ?_⟩
        have := verF_none.2 ⟨h.base i f hf, h.alone i f hf⟩
        simp only [Option.bind_some] at he
        rw [this] at he; cases he
    | none =>
      rw [List.findSome?_eq_none_iff] at hs
      refine ⟨fun _ => ?_, fun _ => rfl⟩
      have key : ∀ i f, fs[i]? = some f → verF fs i f = none := fun i f hf => by
        have := hs i (by simpa using (List.getElem?_eq_some_iff.1 hf).1)
        unfold verI at this; rw [hf] at this; exact this
      exact ⟨by omega, by omega, fun i f hf => (verF_none.1 (key i f hf)).1, fun i f hf => (verF_none.1 (key i f hf)).2⟩
theorem Right.take {fs : List Face} (h : Right fs) {k : Nat} (hk : 1 ≤ k) : Right (fs.take k) := by
  have h1 := h.one
  have h2 := h.most
  have key : ∀ i f, (fs.take k)[i]? = some f → fs[i]? = some f ∧ i < k := by
    intro i f hf
    rw [List.getElem?_take] at hf
    split at hf
    · exact ⟨hf, by assumption⟩
    · cases hf
  refine ⟨by rw [List.length_take]; omega, by rw [List.length_take]; omega, fun i f hf => h.base i f (key i f hf).1, fun i f hf => ?_⟩
  obtain ⟨h3, h4⟩ := key i f hf
  have h5 := h.alone i f h3
  cases ht : twin (fs.take k) i f with
  | false => rfl
  | true =>
    obtain ⟨j, g, hj, hg, he⟩ := twin_iff.1 ht
    have : twin fs i f = true := twin_iff.2 ⟨j, g, hj, (key j g hg).1, he⟩
    rw [this] at h5; cases h5
theorem Right.at {fs : List Face} (h : Right fs) {i : Nat} (hi : i < fs.length) : ∃ f, fs[i]? = some f ∧ (i = 0 → f.base = -1) ∧ (0 < i → 0 ≤ f.base ∧ f.base < i) := by
  refine ⟨_, List.getElem?_eq_getElem hi, fun h0 => ?_, fun h0 => ?_⟩
  · have := h.base i _ (List.getElem?_eq_getElem hi)
    unfold badBase at this; omega
  · have := h.base i _ (List.getElem?_eq_getElem hi)
    unfold badBase at this; omega
theorem Right.line {fs : List Face} (h : Right fs) {i : Nat} (hi : i < fs.length) : (i = 0 ∧ lineP fs (i : Int) = [0]) ∨ (0 < i ∧ ∃ b : Nat, b < i ∧ (∃ f, fs[i]? = some f ∧ f.base = b) ∧ lineP fs (i : Int) = (i : Int) :: lineP fs (b : Int)) := by
  obtain ⟨f, hf, h0, h1⟩ := h.at hi
  have hst := lineP_step (fs := fs) (a := (i : Int)) (f := f) ⟨by omega, by omega⟩ (by simpa using hf)
  rcases Nat.eq_zero_or_pos i with rfl | hp
  · refine .inl ⟨rfl, ?_⟩
    rw [hst, if_neg (by rw [h0 rfl]; omega), h0 rfl, lineP_out (by omega)]; rfl
  · obtain ⟨h2, h3⟩ := h1 hp
    refine .inr ⟨hp, f.base.toNat, by omega, ⟨f, hf, by omega⟩, ?_⟩
    rw [hst, if_neg (by omega), show (f.base.toNat : Int) = f.base by omega]
theorem Right.line_take {fs : List Face} (h : Right fs) {k : Nat} (hk : k ≤ fs.length) : ∀ i : Nat, i < k → lineP (fs.take k) (i : Int) = lineP fs (i : Int) := by
  intro i
  induction i using Nat.strongRecOn with
  | _ i ih =>
    intro hi
    have ht := h.take (k := k) (by omega)
    have hl : (fs.take k).length = k := by rw [List.length_take]; omega
    rcases h.line (i := i) (by omega) with ⟨rfl, h1⟩ | ⟨h0, b, hb, ⟨f, hf, hfb⟩, h1⟩
    · rcases ht.line (i := 0) (by omega) with ⟨_, h2⟩ | ⟨h0, _⟩
      · rw [h1, h2]
      · omega
    · rcases ht.line (i := i) (by omega) with ⟨h3, _⟩ | ⟨_, b2, hb2, ⟨f2, hf2, hfb2⟩, h2⟩
      · omega
      · rw [List.getElem?_take, if_pos hi, hf] at hf2
        obtain rfl := Option.some.inj hf2
        obtain rfl : b = b2 := by omega
        rw [h1, h2, ih b hb (by omega)]
/-- The lines of a right row fall to 0. -/
theorem Right.falls {fs : List Face} (h : Right fs) : ∀ i : Nat, i < fs.length → (lineP fs (i : Int)).Pairwise (· > ·) ∧ (∀ x ∈ lineP fs (i : Int), 0 ≤ x ∧ x ≤ i) ∧ (lineP fs (i : Int)).getLast? = some 0 ∧ (lineP fs (i : Int)).head? = some (i : Int) := by
  intro i
  induction i using Nat.strongRecOn with
  | _ i ih =>
    intro hi
    rcases h.line hi with ⟨rfl, h1⟩ | ⟨h0, b, hb, _, h1⟩
    · rw [h1]; simp
    · obtain ⟨p1, p2, p3, p4⟩ := ih b hb (by omega)
      rw [h1]
      refine ⟨List.pairwise_cons.2 ⟨fun x hx => by have := p2 x hx; omega, p1⟩, fun x hx => ?_, ?_, rfl⟩
      · rcases List.mem_cons.1 hx with rfl | hx
        · omega
        · have := p2 x hx; omega
      · rw [List.getLast?_cons, p3]; rfl
theorem Right.mem_self {fs : List Face} (h : Right fs) {i : Nat} (hi : i < fs.length) : (i : Int) ∈ lineP fs (i : Int) := by
  obtain ⟨r, hr⟩ := lineP_cons (fs := fs) (a := (i : Int)) ⟨by omega, by omega⟩
  rw [hr]; simp
theorem Right.trans {fs : List Face} (h : Right fs) : ∀ i : Nat, i < fs.length → ∀ j : Nat, (j : Int) ∈ lineP fs (i : Int) → ∀ x ∈ lineP fs (j : Int), x ∈ lineP fs (i : Int) := by
  intro i
  induction i using Nat.strongRecOn with
  | _ i ih =>
    intro hi j hj x hx
    rcases h.line hi with ⟨rfl, h1⟩ | ⟨h0, b, hb, _, h1⟩
    · rw [h1] at hj
      have : j = 0 := by simpa using hj
      subst this; exact hx
    · rw [h1] at hj ⊢
      rcases List.mem_cons.1 hj with hj | hj
      · have : j = i := by omega
        subst this
        rw [h1] at hx; exact hx
      · exact List.mem_cons_of_mem _ (ih b hb (by omega) j hj x hx)
theorem Right.zero {fs : List Face} (h : Right fs) {i : Nat} (hi : i < fs.length) : (0 : Int) ∈ lineP fs (i : Int) := List.mem_of_getLast? (h.falls i hi).2.2.1
/-- The first that two lines share is the greatest. -/
theorem Right.common {fs : List Face} (h : Right fs) {i j : Nat} (hi : i < fs.length) (hj : j < fs.length) : ∃ c : Nat, commonP fs i j = some (c : Int) ∧ (c : Int) ∈ lineP fs i ∧ (c : Int) ∈ lineP fs j ∧ ∀ x ∈ lineP fs i, x ∈ lineP fs j → x ≤ c := by
  cases hc : commonP fs i j with
  | none =>
    unfold commonP at hc
    have := List.find?_eq_none.1 hc 0 (h.zero hi)
    exact absurd (isP_true (h.zero hj)) this
  | some c =>
    unfold commonP at hc
    obtain ⟨h1, pre, rest, h2, h3⟩ := List.find?_eq_some_iff_append.1 hc
    have hm : c ∈ lineP fs i := by rw [h2]; simp
    have hmj : c ∈ lineP fs j := by unfold isP at h1; simpa using h1
    have h0 := (lineP_mem hm).1
    refine ⟨c.toNat, by rw [show ((c.toNat : Nat) : Int) = c by omega], by rw [show ((c.toNat : Nat) : Int) = c by omega]; exact hm, by rw [show ((c.toNat : Nat) : Int) = c by omega]; exact hmj, fun x hx hxj => ?_⟩
    rw [h2] at hx
    rcases List.mem_append.1 hx with hx | hx
    · have := h3 x hx
      rw [isP_true hxj] at this; simp at this
    · rcases List.mem_cons.1 hx with rfl | hx
      · omega
      · have hp := (h.falls i hi).1
        rw [h2] at hp
        have := (List.pairwise_cons.1 (List.pairwise_append.1 hp).2.1).1 x hx
        omega
theorem Right.common_sym {fs : List Face} (h : Right fs) {i j : Nat} (hi : i < fs.length) (hj : j < fs.length) : commonP fs i j = commonP fs j i := by
  obtain ⟨c, h1, h2, h3, h4⟩ := h.common hi hj
  obtain ⟨d, g1, g2, g3, g4⟩ := h.common hj hi
  have := h4 d g3 g2
  have := g4 c h3 h2
  rw [h1, g1]; congr 1; omega
theorem Right.anti {fs : List Face} (h : Right fs) {i j : Nat} (hi : i < fs.length) (hj : j < fs.length) (h1 : (j : Int) ∈ lineP fs i) (h2 : (i : Int) ∈ lineP fs j) : i = j := by
  have := (h.falls i hi).2.1 _ h1
  have := (h.falls j hj).2.1 _ h2
  omega
theorem Ctr.toT {P : Program} {f : FuncId} {args : List Value} {w : World} {n : Nat} (h : Ctr P f args w [] fun v _ => v = .bool (decide (60 < n))) (hn : 60 < n) : Ctr P f args w [] fun v _ => v = .bool true := h.mono fun v L e => by rw [e, decide_eq_true hn]
theorem Ctr.toF {P : Program} {f : FuncId} {args : List Value} {w : World} {n : Nat} (h : Ctr P f args w [] fun v _ => v = .bool (decide (60 < n))) (hn : ¬ 60 < n) : Ctr P f args w [] fun v _ => v = .bool false := h.mono fun v L e => by rw [e, decide_eq_false hn]
section
variable {c : Cx} {Qp : Po} {K : Ko} {ρ : Env} {ds : Ds} {L : List Ent} {ol rest : List Oper} {d : Option Nat} {ty : TypeId} {pos : String} {af : Array Edge} {g : Option (Nat × Bool)} {t : TypeId} {x y : Operand}
/-- x[:h] of a slice that is not nil. -/
theorem RL.sliceHi1 {e sz m cp j b o : Nat} {k : IntKind} {i : Int} (hw : wantE c.n ol ρ ⟨d, .slice t x none (some y) none, ty, pos, af, g⟩ = true) (hT : SlT c.P t e sz) (hx : evE c.n ρ x = .slice (some ⟨b, o, none⟩) m cp) (hy : evE c.n ρ y = .int k i) (hi : i = (j : Int)) (hj : j ≤ cp) (hcp : 0 < cp)
    (h : RL c ol rest K Qp (updO ρ d (.slice (some ⟨b, o, none⟩) j cp)) ds L) : RL c ol (⟨d, .slice t x none (some y) none, ty, pos, af, g⟩ :: rest) K Qp ρ ds L := by
  refine RL.sliceHi hw hT hx hy hi hj ?_
  rw [if_neg (by omega)]
  simpa [addr_add] using h
end
theorem Right.first {fs : List Face} (h : Right fs) {i : Nat} (hi : i < fs.length) : (lineP fs (i : Int))[0]? = some (i : Int) := by rw [← List.head?_eq_getElem?]; exact (h.falls i hi).2.2.2
theorem Right.last {fs : List Face} (h : Right fs) {i : Nat} (hi : i < fs.length) : (lineP fs (i : Int))[(lineP fs (i : Int)).length - 1]? = some 0 := by rw [← List.getLast?_eq_getElem?]; exact (h.falls i hi).2.2.1
theorem Right.down {fs : List Face} (h : Right fs) {i g : Nat} (hi : i < fs.length) (hg : 1 ≤ g) {a b : Int} (ha : (lineP fs (i : Int))[g]? = some a) (hb : (lineP fs (i : Int))[g - 1]? = some b) : a < b := by
  have hp := List.pairwise_iff_getElem.1 (h.falls i hi).1
  obtain ⟨h1, e1⟩ := List.getElem?_eq_some_iff.1 ha
  obtain ⟨h2, e2⟩ := List.getElem?_eq_some_iff.1 hb
  have := hp (g - 1) g h2 h1 (by omega)
  rw [e1, e2] at this; exact this
theorem Right.long {fs : List Face} (h : Right fs) {i : Nat} (hi : i < fs.length) : 1 ≤ (lineP fs (i : Int)).length := (List.getElem?_eq_some_iff.1 (h.first hi)).1
theorem isP_mem {fs : List Face} {i j : Int} (h : isP fs i j = true) : j ∈ lineP fs i := by unfold isP at h; simpa using h
/-- A slot that holds a row of numbers of one's own. -/
def rowF (xs : List Int) : Fact := .prd (fun v L => ∃ L1, (∀ p ∈ L1, p ∈ L) ∧ ∃ A cp, v = .slice A xs.length cp ∧ Row 3 1 (.slice A xs.length cp) (ints xs) L1) (fun _ _ _ hs ⟨L1, h1, h2⟩ => ⟨L1, fun p hp => hs p (h1 p hp), h2⟩)
theorem rd_takeI {w : World} {A : Option Addr} {xs : List Int} {k : Nat} (h : Rd w A (ints xs)) : Rd w A (ints (xs.take k)) := by
  obtain ⟨b, o, h1, h2⟩ := h
  refine ⟨b, o, fun h => h1 (by rw [ints_length, List.length_take] at h; rw [ints_length]; omega), fun j v hv => h2 j v ?_⟩
  have e : ints xs = ints (xs.take k) ++ ints (xs.drop k) := by rw [← ints_append, List.take_append_drop]
  rw [e, List.getElem?_append_left (List.getElem?_eq_some_iff.1 hv).1]; exact hv
theorem Row.hi {e sz m cp : Nat} {A : Option Addr} {xs : List Value} {L : List Ent} (h : Row e sz (.slice A m cp) xs L) : (if cp = 0 then A else A.map (·.add 0)) = A := by
  cases h with
  | nil => rfl
  | blk b m cp xs junk h1 h2 h3 => split <;> simp [Addr.add]
theorem srow_of {v : Value} {xs : List Int} {L : List Ent} (h : ∃ L1 L2, L = L1 ++ L2 ∧ IRow v xs L1) : SRow v xs L := let ⟨L1, L2, h1, h2⟩ := h; ⟨L1, by rw [h1]; exact List.sublist_append_left _ _, h2⟩
def idAt (fs : List Face) (id : List Int) (k : Int) : Bool := match fs[k.toNat]? with | some f => decide (f.id = id) | none => false
theorem idAt_of {fs : List Face} {id : List Int} {k : Int} {f : Face} (h : fs[k.toNat]? = some f) : idAt fs id k = decide (f.id = id) := by unfold idAt; rw [h]
def hitP (fs : List Face) (id : List Int) (i : Nat) : Bool := (lineP fs (i : Int)).any (idAt fs id)
def underN (fs : List Face) (id : List Int) (n : Nat) : List Int := ((List.range n).filter (hitP fs id)).map (fun (i : Nat) => (i : Int))
theorem underN_succ (fs : List Face) (id : List Int) (n : Nat) : underN fs id (n + 1) = underN fs id n ++ (if hitP fs id n then [(n : Int)] else []) := by
  unfold underN
  rw [List.range_succ, List.filter_append, List.map_append]
  congr 1
  by_cases h : hitP fs id n <;> simp [h]
theorem underN_len (fs : List Face) (id : List Int) (n : Nat) : (underN fs id n).length ≤ n := by
  unfold underN
  rw [List.length_map]
  have := List.length_filter_le (hitP fs id) (List.range n)
  simpa using this
theorem underN_no {fs : List Face} {id : List Int} {n : Nat} (h : ∀ y ∈ lineP fs (n : Int), idAt fs id y = false) : underN fs id (n + 1) = underN fs id n := by
  rw [underN_succ, if_neg, List.append_nil]
  unfold hitP; rw [List.any_eq_true]
  rintro ⟨y, hy, h2⟩; rw [h y hy] at h2; cases h2
theorem underN_yes {fs : List Face} {id : List Int} {n : Nat} {y : Int} (hy : y ∈ lineP fs (n : Int)) (h : idAt fs id y = true) : underN fs id (n + 1) = underN fs id n ++ [(n : Int)] := by
  rw [underN_succ, if_pos]
  unfold hitP; rw [List.any_eq_true]; exact ⟨y, hy, h⟩
theorem St.low_not {w0 w : World} {L : List Ent} {b : Nat} (h : St w0 [] w L) (hb : b < w0.heap.size) {L1 : List Ent} (hs : ∀ p ∈ L1, p ∈ L) : b ∉ keys L1 := by
  intro hm
  obtain ⟨p, hp, e⟩ := List.mem_map.1 hm
  have := h.ge (hs p hp)
  omega
/-- What 'Under' holds so far, ahead of a line and when one of its places is hit. -/
def unI (fs : List Face) (id : List Int) (L0 : List Ent) (pre : List Int) (L : List Ent) : Prop := L = L0 ∧ ∀ y ∈ pre, idAt fs id y = false
def unX (fs : List Face) (id : List Int) (k5 g : Nat) (e : Exit) (pre : List Int) (L : List Ent) : Prop := e = .exit 1 ∧ (∃ y ∈ pre, idAt fs id y = true) ∧
  ∃ A cp Lr, Row 3 1 (.slice A (underN fs id g ++ [(g : Int)]).length cp) (ints (underN fs id g ++ [(g : Int)])) Lr ∧ L = Lr ++ [(k5, cel 32 [.slice A (underN fs id g ++ [(g : Int)]).length cp])]
end Go.Proofs.Ytjaibkfmkhfjfaa
