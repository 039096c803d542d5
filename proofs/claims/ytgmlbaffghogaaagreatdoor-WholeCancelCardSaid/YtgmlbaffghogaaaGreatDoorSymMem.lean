/- SYM: slices that are made, appended to, cut; regions that draw their order and change nothing that is known. -/
import Derived.Test.YtgmlbaffghogaaaGreatDoorSymOps
set_option linter.unusedVariables false
set_option linter.unusedSimpArgs false
namespace Go.Proofs.YtgmlbaffghogaaaGreatDoor
open Go.RowKit
/-- An element's type: its cells, its bytes, its zero. -/
structure ElT (P : Program) (e : TypeId) (sz bytes : Nat) (z : List Value) : Prop where
  info : ∃ i, P.info? e = some i ∧ i.size = sz ∧ i.bytes = bytes
  zero : ZeroT P e z
  zlen : z.length = sz
  one : ∀ u ∈ z, u.oneCell' = true
theorem ElT.mk' {P : Program} {e : TypeId} {sz bytes : Nat} {z : List Value} (h : (P.info? e).map (fun i => (i.size, i.bytes)) = some (sz, bytes)) (hz : ZeroT P e z) (hl : z.length = sz) (h1 : z.all Value.oneCell' = true) : ElT P e sz bytes z := by
  refine ⟨?_, hz, hl, by simpa using h1⟩
  cases hi : P.info? e with
  | none => simp [hi] at h
  | some i => simp [hi] at h; exact ⟨i, rfl, h.1, h.2⟩
section
variable {P : Program} {e : TypeId} {sz bytes : Nat} {z : List Value}
theorem ElT.run_info (h : ElT P e sz bytes z) (w : World) : ∃ i, (typeInfo e).run P w = .ok i w ∧ i.bytes = bytes := by
  obtain ⟨i, h1, h2, h3⟩ := h.info
  exact ⟨i, by simp [typeInfo, h1], h3⟩
theorem ElT.run_size (h : ElT P e sz bytes z) (w : World) : (sizeOf e).run P w = .ok sz w := by
  obtain ⟨i, h1, h2, h3⟩ := h.info
  exact size_of_info (by simp [h1, h2]) w
end
/-- A row of one's own: nil, or the head of a block. -/
inductive Row (e sz : Nat) : Value → List Value → List Ent → Prop
  | nil : Row e sz (.slice none 0 0) [] []
  | blk (b m cp : Nat) (xs junk : List Value) (h1 : xs.length = m * sz) (h2 : (xs ++ junk).length = cp * sz) (h3 : m ≤ cp) : Row e sz (.slice (some ⟨b, 0, none⟩) m cp) xs [(b, cel e (xs ++ junk))]
theorem Row.slice {e sz : Nat} {v : Value} {xs : List Value} {Lr : List Ent} (h : Row e sz v xs Lr) (hsz : 0 < sz) : ∃ A m cp, v = .slice A m cp ∧ xs.length = m * sz ∧ m ≤ cp ∧ (0 < m → ∃ b, A = some ⟨b, 0, none⟩) := by
  cases h with
  | nil => exact ⟨none, 0, 0, rfl, by simp, Nat.le_refl _, fun h => absurd h (by simp)⟩
  | blk b m cp xs junk h1 h2 h3 => exact ⟨_, m, cp, rfl, h1, h3, fun _ => ⟨b, rfl⟩⟩
/-- What a row of one's own reads as. -/
theorem Row.reads {e sz : Nat} {v : Value} {xs : List Value} {Lr L : List Ent} {w0 w : World} {S : List Nat} (h : Row e sz v xs Lr) (hst : St w0 S w L) (hs : ∀ p ∈ Lr, p ∈ L) : ∃ A m cp, v = .slice A m cp ∧ xs.length = m * sz ∧ m ≤ cp ∧ (A = none ∧ xs = [] ∨ ∃ b, A = some ⟨b, 0, none⟩ ∧ CellsAt w b 0 xs) := by
  cases h with
  | nil => exact ⟨none, 0, 0, rfl, by simp, Nat.le_refl _, .inl ⟨rfl, rfl⟩⟩
  | blk b m cp xs junk h1 h2 h3 =>
    refine ⟨_, m, cp, rfl, h1, h3, .inr ⟨b, rfl, ?_⟩⟩
    intro j v hv
    rw [hst.cellO (hs _ List.mem_cons_self)]
    rw [Nat.zero_add, List.getElem?_append_left (List.getElem?_eq_some_iff.1 hv).1]; exact hv
theorem growBy_le (n : Nat) : ∀ (r c : Nat), Builtin.growBy n r c ≤ max c (2 * n + 768)
  | 0, c => by simp [Builtin.growBy]; omega
  | r + 1, c => by
    simp only [Builtin.growBy]
    split
    · omega
    · have := growBy_le n r (c + (c + 768) / 4); omega
theorem nextcap_le {n c : Nat} (h : c < n) : Builtin.nextslicecap n c ≤ 2 * n + 768 := by
  unfold Builtin.nextslicecap
  split
  · omega
  · split
    · omega
    · have := growBy_le n 4 c; omega
theorem replicate_zero_cells (z : List Value) (n : Nat) : (Builtin.zeroCells z.toArray n).size = n * z.length := by simp [Builtin.zeroCells]
/-- The run of an append onto a row of one's own. -/
theorem run_append {P : Program} {t t2 e e2 sz bytes : Nat} {z : List Value} {w0 w : World} {S : List Nat} {v x : Value} {xs ys : List Value} {Lr Lz : List Ent} {n ty : Nat} (hT : SlT P t e sz) (hE : ElT P e sz bytes z) (hsz : 0 < sz)
    (hu : P.underlying t2 = some (.slice e2)) (hn : (Builtin.lenOf x).run P w = .ok n w) (hys : ys.length = n * sz) (h1 : ∀ u ∈ ys, u.oneCell' = true)
    (hf : ∀ w', St w0 S w' (Lr ++ Lz) → (Builtin.firstCells sz n x).run P w' = .ok ys.toArray w') (hrow : Row e sz v xs Lr) (hst : St w0 S w (Lr ++ Lz)) (hb : ∀ m, xs.length = m * sz → (2 * (m + n) + 768) * bytes ≤ 281474976710656) (hb0 : 0 < bytes) :
    ∃ v' Lr' w', (Builtin.append_ #[t, t2] ty #[v, x]).run P w = .ok v' w' ∧ Row e sz v' (xs ++ ys) Lr' ∧ St w0 S w' (Lr' ++ Lz) ∧ (xs ++ ys = [] → Lr = [] → v' = v) := by
  have hrs := hrow.slice hsz
  obtain ⟨A, m, cp, rfl, hm, hmc, hA⟩ := hrs
  obtain ⟨ii, hi1, hi2⟩ := hE.run_info w
  have hbm := hb m hm
  unfold Builtin.append_
  simp only [List.getElem?_toArray, List.getElem?_cons_zero, List.getElem?_cons_succ, Sem.run_bind, run_underlying hT.und, Result.andThen_ok, run_underlying hu, hT.size, Sem.run_pure, Bool.false_eq_true, if_false, hn, Bool.not_false, if_true, Sem.run_ite]
  by_cases hle : m + n ≤ cp
  · rw [if_pos hle]
    simp only [hf w hst, Sem.run_bind, Result.andThen_ok]
    cases hrow with
    | nil =>
      have hn0 : n = 0 := by omega
      subst hn0
      have hy0 : ys = [] := by simpa using hys
      subst hy0
      exact ⟨_, [], w, by simp, by simpa using Row.nil, by simpa using hst, fun _ _ => rfl⟩
    | blk b m cp xs junk h2 h3 h4 =>
      obtain ⟨w', hr, hst'⟩ := store_cells (P := P) (w0 := w0) (S := S) (L1 := []) (L2 := Lz) (bb := b) (off := m * sz) (tt := e) ys 0 (xs ++ junk) w h1 (by simpa using hst) (by
        rw [h3, hys, Nat.add_zero, ← Nat.add_mul]; exact Nat.mul_le_mul_right sz hle)
      refine ⟨.slice (some ⟨b, 0, none⟩) (m + n) cp, [(b, cel e ((xs ++ ys) ++ junk.drop ys.length))], w', by simp [addr_add, hr], ?_, ?_, fun h0 hL0 => by simp at hL0⟩
      · refine Row.blk b (m + n) cp (xs ++ ys) (junk.drop ys.length) (by simp [h2, hys, Nat.add_mul]) ?_ hle
        have hj : ys.length ≤ junk.length := by
          have h5 : (m + n) * sz ≤ cp * sz := Nat.mul_le_mul_right sz hle
          rw [Nat.add_mul] at h5
          simp only [List.length_append] at h3
          omega
        simp only [List.length_append, List.length_drop] at h3 ⊢
        omega
      · have e1 : (xs ++ junk).take (m * sz) = xs := by rw [← h2]; simp
        have e2 : (xs ++ junk).drop (m * sz + ys.length) = junk.drop ys.length := by rw [← h2, List.drop_append]; simp
        simp only [Nat.add_zero, e1, e2, List.nil_append] at hst'
        simpa using hst'
  · rw [if_neg hle]
    have hnc := nextcap_le (n := m + n) (c := cp) (by omega)
    have hc1 : ¬ (((m + n : Nat) : Int) > IntKind.i64.max ∧ (False ∨ ii.bytes = 0)) := by
      rintro ⟨_, h | h⟩
      · exact h
      · omega
    have hc2 : ¬ (Builtin.nextslicecap (m + n) cp * ii.bytes > 2 ^ 48) := by
      rw [hi2]
      have := Nat.mul_le_mul_right bytes hnc
      omega
    obtain ⟨zv, hz1, hz2⟩ := hE.zero
    -- the old cells
    have hold : ∀ w', St w0 S w' (Lr ++ Lz) → (Builtin.firstCells sz m (.slice A m cp)).run P w' = .ok xs.toArray w' := by
      intro w' hst'
      obtain ⟨A', m', cp', he, h2, h3, h4⟩ := hrow.reads hst' (fun p hp => List.mem_append_left _ hp)
      injection he with e1 e2 e3
      subst e1 e2 e3
      rcases h4 with ⟨rfl, rfl⟩ | ⟨b, rfl, hc⟩
      · simp [Builtin.firstCells]
      · simp only [Builtin.firstCells]
        rw [← h2]
        exact run_loadCells_list (P := P) w' ⟨b, 0, none⟩ xs (fun j v hv => by rw [addr_add]; exact hc j v hv)
    obtain ⟨q, hq⟩ : ∃ q, q = Question.appendCap (m + n) cp e := ⟨_, rfl⟩
    obtain ⟨w1, hw1⟩ : ∃ w1 : World, w1 = { w with drawn := w.drawn + 1 } := ⟨_, rfl⟩
    have hst1 : St w0 S w1 (Lr ++ Lz) := by rw [hw1]; exact hst.drawn _
    obtain ⟨nc, hnc1, hnc2⟩ : ∃ nc, (choose q).run P w = .ok nc w1 ∧ m + n ≤ nc := by
      refine ⟨q.cut (w.tape w.drawn q), by subst hq hw1; simp [Question.forced], ?_⟩
      subst hq
      simp only [Question.cut]
      omega
    have hlz : z.length = sz := hE.zlen
    obtain ⟨w2, hw2⟩ : ∃ w2, w1.alloc (cel e (xs ++ ys ++ (Builtin.zeroCells z.toArray (nc - (m + n))).toList)) = w2 := ⟨_, rfl⟩
    refine ⟨.slice (some ⟨w1.heap.size, 0, none⟩) (m + n) nc, [(w1.heap.size, cel e (xs ++ ys ++ (Builtin.zeroCells z.toArray (nc - (m + n))).toList))], w2, ?_, ?_, ?_, ?_⟩
    · simp only [hi1, Sem.run_bind, Result.andThen_ok, Sem.run_ite, if_neg hc2]
      rw [if_neg (by simpa using hc1)]
      rw [← hq]
      simp only [Sem.run_bind, hnc1, Result.andThen_ok]
      obtain ⟨i3, hi3, hi4⟩ := hE.run_info w1
      simp only [hi3, Result.andThen_ok, run_askRoom, hold w1 hst1, hf w1 hst1, hz2, hz1]
      simp only [newRow, run_newObj, Sem.run_bind, Result.andThen_ok, Sem.run_pure, World.alloc_eq]
      rw [← hw2]
      simp only [Result.ok.injEq, true_and]
      congr 2
      apply Array.ext'
      simp
    · refine Row.blk _ (m + n) nc (xs ++ ys) _ (by simp [hm, hys, Nat.add_mul]) ?_ hnc2
      simp only [List.length_append, Array.length_toList, replicate_zero_cells, hm, hys, hlz]
      rw [← Nat.add_mul, ← Nat.add_mul]
      congr 1
      omega
    · rw [← hw2]
      have h5 := hst1.alloc (cel e (xs ++ ys ++ (Builtin.zeroCells z.toArray (nc - (m + n))).toList))
      refine h5.sub ?_
      simp only [List.singleton_append]
      exact List.Sublist.cons_cons _ (List.sublist_append_right _ _)
    · intro h0 hL0
      exfalso
      have : (xs ++ ys).length = (m + n) * sz := by simp [hm, hys, Nat.add_mul]
      rw [h0] at this
      have : (m + n) * sz = 0 := by simpa using this.symm
      rcases Nat.mul_eq_zero.1 this with h | h <;> omega
section
variable {c : Cx} {Qp : Po} {K : Ko} {ρ : Env} {ds : Ds} {L : List Ent} {ol rest : List Oper}
variable {d : Option Nat} {ty : TypeId} {pos : String} {af : Array Edge} {g : Option (Nat × Bool)} {t t2 : TypeId} {x y : Operand}
/-- append onto a row of one's own; the second operand may be whatever slice reads as ys. -/
theorem RL.append {e sz bytes n cy : Nat} {z : List Value} {v : Value} {xs ys : List Value} {Lr Lz : List Ent} {B : Option Addr} (hq : c.q = false) (hw : wantE c.n ol ρ ⟨d, .call ⟨.builtin .append, #[x, y], #[t, t2]⟩, ty, pos, af, g⟩ = true) (hT : SlT c.P t e sz) (hE : ElT c.P e sz bytes z) (hsz : 0 < sz) (hb0 : 0 < bytes)
    {e2 : Nat} (hu : c.P.underlying t2 = some (.slice e2)) (hL : L.Perm (Lr ++ Lz)) (hx : evE c.n ρ x = v) (hrow : Row e sz v xs Lr) (hy : evE c.n ρ y = .slice B n cy) (hys : ys.length = n * sz) (h1 : ∀ u ∈ ys, u.oneCell' = true)
    (hc : ∀ w, St c.w0 c.S w (Lr ++ Lz) → ys = [] ∨ ∃ b o, B = some ⟨b, o, none⟩ ∧ CellsAt w b o ys) (hb : ∀ m, xs.length = m * sz → (2 * (m + n) + 768) * bytes ≤ 281474976710656)
    (h : ∀ v' Lr', Row e sz v' (xs ++ ys) Lr' → RL c ol rest K Qp (updO ρ d v') ds (Lr' ++ Lz)) : RL c ol (⟨d, .call ⟨.builtin .append, #[x, y], #[t, t2]⟩, ty, pos, af, g⟩ :: rest) K Qp ρ ds L := by
  refine RL.step hq hw rfl fun w hst0 => ?_
  have hst := hst0.perm hL.symm
  obtain ⟨v', Lr', w', hr, hrow', hst', _⟩ := run_append (P := c.P) (t := t) (t2 := t2) (w := w) (ty := ty) (x := .slice B n cy) (n := n) hT hE hsz hu (by simp [Builtin.lenOf]) hys h1 (fun w' hw' => by
    rcases hc w' hw' with rfl | ⟨b, o, rfl, hcc⟩
    · have h0 : n * sz = 0 := by simpa using hys.symm
      cases B with
      | none => simp [Builtin.firstCells]
      | some a => simp [Builtin.firstCells, h0, loadCells, loadCellsFrom]
    · simp only [Builtin.firstCells, ← hys]
      exact run_loadCells_list (P := c.P) w' ⟨b, o, none⟩ ys (fun j v hv => by rw [addr_add]; exact hcc j v hv)) hrow hst hb hb0
  refine ⟨v', w', Lr' ++ Lz, .inl ?_, hst', h v' Lr' hrow'⟩
  simp [execOp, resolve, invoke, builtin, hx, hy, Sem.run_bind, hr]
/-- A slice of one element, or of none, that is laid. -/
theorem RL.bs0 {e sz : Nat} (hq : c.q = false) (hw : wantE c.n ol ρ ⟨d, .buildSlice t 0 #[], ty, pos, af, g⟩ = true) (hT : SlT c.P t e sz) (h : ∀ bb, c.w0.heap.size ≤ bb → RL c ol rest K Qp (updO ρ d (.slice (some ⟨bb, 0, none⟩) 0 0)) ds ((bb, cel e []) :: L)) :
    RL c ol (⟨d, .buildSlice t 0 #[], ty, pos, af, g⟩ :: rest) K Qp ρ ds L :=
  RL.step hq hw rfl fun w hst => ⟨_, w.alloc (cel e []), _, .inl (by
    simp [execOp, Instr.buildSlice, Sem.run_bind, run_underlying hT.und, hT.size, Instr.fill, newRow]; congr 2; apply Array.ext <;> simp), hst.alloc _, h _ hst.size⟩
theorem fill_all (z : Nat → Value) (sz : Nat) (v : Value) (l : List Value) (hv : v.cells = l.toArray) (hl : l.length = sz) : Instr.fill (fun i => some (i * sz, sz)) ((Array.range (1 * sz)).map z) [(0, v)] = some l.toArray := by
  simp only [Instr.fill]
  rw [if_neg (by simp [hv, hl])]
  congr 1
  rw [hv]
  have key : ∀ (l : List Value) (k : Nat) (cs : Array Value), k + l.length ≤ cs.size → ((l.zipIdx k).foldl (fun (cs : Array Value) (x : Value × Nat) => cs.setIfInBounds (0 * sz + x.2) x.1) cs).toList = cs.toList.take k ++ l ++ cs.toList.drop (k + l.length) := by
    intro l
    induction l with
    | nil => intro k cs h; simp
    | cons a l ih =>
      intro k cs h
      simp only [List.length_cons] at h
      simp only [List.zipIdx_cons, List.foldl_cons]
      rw [ih (k + 1) _ (by simp; omega)]
      simp only [Nat.zero_mul, Nat.zero_add, Array.toList_setIfInBounds, List.length_cons]
      have hk : k < cs.toList.length := by simp; omega
      have e1 : (cs.toList.set k a).take (k + 1) = cs.toList.take k ++ [a] := by
        rw [List.take_succ_eq_append_getElem (by simpa using hk), List.take_set_of_le (Nat.le_refl _)]; simp
      have e2 : (cs.toList.set k a).drop (k + 1 + l.length) = cs.toList.drop (k + (l.length + 1)) := by
        rw [show k + 1 + l.length = k + (l.length + 1) from by omega]; exact List.drop_set_of_lt (by omega)
      rw [e1, e2]; simp
  apply Array.ext'
  rw [← Array.foldl_toList, Array.toList_zipIdx]
  have := key l 0 ((Array.range (1 * sz)).map z) (by simp [hl])
  simp only [List.toList_toArray] at this ⊢
  rw [this]
  simp [hl]
theorem RL.bs1 {e sz : Nat} {v : Value} {l : List Value} {zz : List Value} (hq : c.q = false) (hw : wantE c.n ol ρ ⟨d, .buildSlice t 1 #[(0, x)], ty, pos, af, g⟩ = true) (hT : SlT c.P t e sz) (hz : ZeroT c.P e zz) (hx : evE c.n ρ x = v) (hv : v.cells = l.toArray) (hl : l.length = sz) (hs : sz ≤ 16777216)
    (h : ∀ bb, c.w0.heap.size ≤ bb → RL c ol rest K Qp (updO ρ d (.slice (some ⟨bb, 0, none⟩) 1 1)) ds ((bb, cel e l) :: L)) : RL c ol (⟨d, .buildSlice t 1 #[(0, x)], ty, pos, af, g⟩ :: rest) K Qp ρ ds L := by
  obtain ⟨zv, hz1, hz2⟩ := hz
  refine RL.step hq hw rfl fun w hst => ⟨_, w.alloc (cel e l), _, .inl ?_, hst.alloc _, h _ hst.size⟩
  have hc : ¬ (1 * sz > 2 ^ 24) := by omega
  have hf := fun z => fill_all z sz v l hv hl
  by_cases h0 : 1 * sz = 0
  · have h0' : sz = 0 := by omega
    have := hf (fun i => (#[] : Array Value)[i % (#[] : Array Value).size]!)
    simp [execOp, Instr.buildSlice, Sem.run_bind, run_underlying hT.und, hT.size, newRow, h0', hx] at this ⊢
    rw [this]; simp
  · have := hf (fun i => (zv.cells)[i % zv.cells.size]!)
    simp only [execOp, Instr.buildSlice, Sem.run_bind, run_underlying hT.und, Result.andThen_ok, hT.size, Sem.run_ite, if_neg hc, if_neg h0, hz2, Sem.run_pure, List.map_toArray, List.map_cons, List.map_nil, hx, List.toList_toArray] at this ⊢
    rw [this]
    simp [newRow]
theorem RL.bs1I {e : Nat} {k : IntKind} {a : Int} {zz : List Value} (hq : c.q = false) (hw : wantE c.n ol ρ ⟨d, .buildSlice t 1 #[(0, x)], ty, pos, af, g⟩ = true) (hT : SlT c.P t e 1) (hz : ZeroT c.P e zz) (hx : evE c.n ρ x = .int k a)
    (h : ∀ bb, c.w0.heap.size ≤ bb → RL c ol rest K Qp (updO ρ d (.slice (some ⟨bb, 0, none⟩) 1 1)) ds ((bb, cel e [.int k a]) :: L)) : RL c ol (⟨d, .buildSlice t 1 #[(0, x)], ty, pos, af, g⟩ :: rest) K Qp ρ ds L := RL.bs1 hq hw hT hz hx rfl rfl (by decide) h
theorem RL.bs1A {e sz : Nat} {l : List Value} {zz : List Value} (hq : c.q = false) (hw : wantE c.n ol ρ ⟨d, .buildSlice t 1 #[(0, x)], ty, pos, af, g⟩ = true) (hT : SlT c.P t e sz) (hz : ZeroT c.P e zz) (hx : evE c.n ρ x = .agg l.toArray) (hl : l.length = sz) (hs : sz ≤ 16777216)
    (h : ∀ bb, c.w0.heap.size ≤ bb → RL c ol rest K Qp (updO ρ d (.slice (some ⟨bb, 0, none⟩) 1 1)) ds ((bb, cel e l) :: L)) : RL c ol (⟨d, .buildSlice t 1 #[(0, x)], ty, pos, af, g⟩ :: rest) K Qp ρ ds L := RL.bs1 hq hw hT hz hx rfl hl hs h
/-- A literal slice whose parts are all known: its cells are reckoned. -/
theorem RL.bsC {e sz n : Nat} {ps : Array (Nat × Operand)} {vs : List (Nat × Value)} {zz cells : List Value} (hq : c.q = false) (hw : wantE c.n ol ρ ⟨d, .buildSlice t n ps, ty, pos, af, g⟩ = true) (hT : SlT c.P t e sz) (hz : ∀ w, ∃ v : Value, v.cells = zz.toArray ∧ (zeroValue e).run c.P w = .ok v w) (hv : (ps.toList.map fun (i, x) => (i, evE c.n ρ x)) = vs) (h0 : (n * sz == 0) = false) (hs : Nat.ble (n * sz) 16777216 = true)
    (hf : Instr.fill (fun i => some (i * sz, sz)) ((Array.range (n * sz)).map fun i => zz.toArray[i % zz.toArray.size]!) vs = some cells.toArray)
    (h : ∀ bb, c.w0.heap.size ≤ bb → RL c ol rest K Qp (updO ρ d (.slice (some ⟨bb, 0, none⟩) n n)) ds ((bb, cel e cells) :: L)) : RL c ol (⟨d, .buildSlice t n ps, ty, pos, af, g⟩ :: rest) K Qp ρ ds L := by
  refine RL.step hq hw rfl fun w hst => ⟨_, w.alloc (cel e cells), _, .inl ?_, hst.alloc _, h _ hst.size⟩
  obtain ⟨zv, hz1, hz2⟩ := hz w
  have h0' : ¬ n * sz = 0 := by simpa using h0
  have hc : ¬ (n * sz > 2 ^ 24) := by have := Nat.le_of_ble_eq_true hs; omega
  have e1 : (ps.map fun (x : Nat × Operand) => (x.1, evE c.n ρ x.2)).toList = vs := by rw [← hv]; simp
  simp only [execOp, Instr.buildSlice, Sem.run_bind, run_underlying hT.und, Result.andThen_ok, hT.size, Sem.run_ite, if_neg hc, if_neg h0', hz2, Sem.run_pure, hz1]
  rw [e1, hf]
  simp [newRow]
theorem RL.bldC {vs : List (Nat × Value)} {cells : List Value} {ps : Array (Nat × Operand)} (hw : wantE c.n ol ρ ⟨d, .build t ps, ty, pos, af, g⟩ = true) (hv : (ps.toList.map fun (i, x) => (i, evE c.n ρ x)) = vs) (hr : ∀ w, (Instr.build t vs.toArray).run c.P w = .ok (.agg cells.toArray) w)
    (h : RL c ol rest K Qp (updO ρ d (.agg cells.toArray)) ds L) : RL c ol (⟨d, .build t ps, ty, pos, af, g⟩ :: rest) K Qp ρ ds L := by
  refine RL.pure hw rfl (fun w => ?_) h
  have e1 : (ps.map fun (x : Nat × Operand) => (x.1, evE c.n ρ x.2)) = vs.toArray := by apply Array.ext'; rw [← hv]; simp
  simp only [execOp, Sem.run_bind]
  rw [e1, hr w]
  rfl
/-- x[:h] of a slice. -/
theorem RL.sliceHi {e sz m cp j : Nat} {A : Option Addr} {k : IntKind} {i : Int} (hw : wantE c.n ol ρ ⟨d, .slice t x none (some y) none, ty, pos, af, g⟩ = true) (hT : SlT c.P t e sz) (hx : evE c.n ρ x = .slice A m cp) (hy : evE c.n ρ y = .int k i) (hi : i = (j : Int)) (hj : j ≤ cp)
    (h : RL c ol rest K Qp (updO ρ d (.slice (if cp = 0 then A else A.map (·.add 0)) j cp)) ds L) : RL c ol (⟨d, .slice t x none (some y) none, ty, pos, af, g⟩ :: rest) K Qp ρ ds L := by
  subst hi
  refine RL.pure hw rfl (fun w => ?_) h
  have hle : (j : Int) ≤ (cp : Int) := by omega
  simp [execOp, hx, hy, Instr.sliceAt, Instr.slice, Instr.sliceBounds, Instr.sliceBound, asIntOf, Sem.run_bind, run_underlying hT.und, hT.size, hj]
end
/-- What is known of a row of one's own that is not empty. -/
theorem Row.open {e sz m cp : Nat} {A : Option Addr} {xs : List Value} {Lr : List Ent} (h : Row e sz (.slice A m cp) xs Lr) (hm : 0 < m) : ∃ b junk, A = some ⟨b, 0, none⟩ ∧ Lr = [(b, cel e (xs ++ junk))] := by
  cases h with
  | nil => omega
  | blk b m cp xs junk h1 h2 h3 => exact ⟨b, junk, rfl, rfl⟩
/-- A row of one's own of one-cell parts: 'append' of one number that lies in a block of its own. -/
theorem RL.app1I {c : Cx} {Qp : Po} {K : Ko} {ρ : Env} {ds : Ds} {ol rest : List Oper} {d : Option Nat} {ty : TypeId} {pos : String} {af : Array Edge} {g : Option (Nat × Bool)} {t t2 e2 : TypeId} {x y : Operand} {e bb : Nat} {k : IntKind} {a : Int} {z : List Value} {v : Value} {xs : List Value} {Lr Lz L0 : List Ent}
    (hq : c.q = false) (hw : wantE c.n ol ρ ⟨d, .call ⟨.builtin .append, #[x, y], #[t, t2]⟩, ty, pos, af, g⟩ = true) (hT : SlT c.P t e 1) (hE : ElT c.P e 1 8 z) (hu : c.P.underlying t2 = some (.slice e2)) (hL : L0.Perm (Lr ++ Lz)) (hx : evE c.n ρ x = v) (hy : evE c.n ρ y = .slice (some ⟨bb, 0, none⟩) 1 1) (hrow : Row e 1 v xs Lr)
    (hb : xs.length ≤ 1000000) {n : Nat} (hn : n = xs.length + 1) (h : ∀ A cp Lr', Row e 1 (.slice A n cp) (xs ++ [.int k a]) Lr' → RL c ol rest K Qp (updO ρ d (.slice A n cp)) ds (Lr' ++ (Lz ++ [(bb, cel e [.int k a])]))) :
    RL c ol (⟨d, .call ⟨.builtin .append, #[x, y], #[t, t2]⟩, ty, pos, af, g⟩ :: rest) K Qp ρ ds ((bb, cel e [.int k a]) :: L0) := by
  refine RL.append (Lr := Lr) (Lz := Lz ++ [(bb, cel e [.int k a])]) (n := 1) (ys := [.int k a]) hq hw hT hE (by decide) (by decide) hu ?_ hx hrow hy rfl (by simp [Value.oneCell']) (fun w hst => .inr ⟨bb, 0, rfl, ?_⟩) (fun m hm => by omega) (fun v' Lr' hr => ?_)
  · have h1 : ((bb, cel e [.int k a]) :: L0).Perm ([(bb, cel e [.int k a])] ++ (Lr ++ Lz)) := by simpa using hL.cons (bb, cel e [Value.int k a])
    refine h1.trans ?_
    rw [← List.append_assoc Lr Lz]
    exact List.perm_append_comm
  · have := hst.cellsO (b := bb) (t := e) (l := [.int k a]) (fr := (0, 0)) (by simp) 0
    simpa using this
  · obtain ⟨A, m, cp, rfl, hm, _, _⟩ := hr.slice (by decide)
    have : m = n := by simp at hm; omega
    subst this
    exact h A cp Lr' hr
end Go.Proofs.YtgmlbaffghogaaaGreatDoor
