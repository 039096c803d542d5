/- WholeFar: EvC. -/
import Derived.Test.YtpcdcemcjbeajaaGreatDoorWf02
import Derived.Test.YtpcdcemcjbeajaaGreatDoorWf05
set_option linter.unusedVariables false
set_option linter.unusedSimpArgs false
namespace Go.Proofs.YtpcdcemcjbeajaaGreatDoor
open Go.RowKit
section
variable {P : Program} {w0 : World} {B : List Nat} {f : Operand → Value} {σ : Sg} {nx : Nm} {h : Hp} {L : List Ent} {n : Nat} {env : En} {k : Kt} {dd : List D} {r : Rs}
variable {d : Option Nat} {ty : TypeId} {pos : String} {af : Array Edge} {g : Option (Nat × Bool)} {ih : Ih} {x y z : Operand} {t t' : TypeId}
theorem rdS_ok {sz m : Nat} {v : V} {ys : List S} {u : Value} (hH : HR σ nx h L) (hr : rdS sz h v = some (m, ys)) (ho : okV σ v u) : ∃ vs, All2 (okS σ) ys vs ∧ ys.length = m * sz ∧ (∀ w, (Builtin.lenOf u).run P w = .ok m w) ∧ ∀ w, St w0 B w L → (Builtin.firstCells sz m u).run P w = .ok vs.toArray w := by
  unfold rdS at hr
  split at hr
  · injection hr with hr; injection hr with e1 e2; subst e1 e2
    cases (show u = .slice none 0 0 from ho)
    exact ⟨[], trivial, by simp, fun w => by simp [Builtin.lenOf], fun w _ => by simp [Builtin.firstCells]⟩
  · injection hr with hr; injection hr with e1 e2; subst e1 e2
    obtain ⟨a, c, rfl⟩ := (show okX σ .se u from ho)
    exact ⟨[], trivial, by simp, fun w => by simp [Builtin.lenOf], fun w _ => by simp [Builtin.firstCells, loadCells, loadCellsFrom]⟩
  · rename_i nm o len _ _
    split at hr
    · rename_i q rr nn ks h1
      split at hr
      · rename_i l h2
        injection hr with hr; injection hr with e1 e2; subst e1 e2
        obtain ⟨bb, cp, cc, h3, rfl, _, _⟩ := okV_l ho
        obtain ⟨b', c', vs, junk, h4, h5, h6, _⟩ := cells_of hH h1
        rw [h3] at h4; injection h4 with h4; injection h4 with e1 e2; subst e1
        obtain ⟨h7, h8⟩ := cut_ok h2
        have h9 : All2 (okS σ) l ((vs.drop o).take (len * sz)) := by rw [h7]; exact (h6.drop o).take _
        refine ⟨_, h9, h8, fun w => by simp [Builtin.lenOf], fun w hw => ?_⟩
        have h10 : ((vs.drop o).take (len * sz)).length = len * sz := by rw [← h9.length]; exact h8
        simp only [Builtin.firstCells]
        have := run_loadCells_list (P := P) w ⟨bb, o, none⟩ ((vs.drop o).take (len * sz)) (fun j v hv => by rw [addr_add]; exact cells_cut hw h5 j v hv)
        rw [h10] at this; exact this
      · cases hr
    · cases hr
  · cases hr
theorem app_fit {t2 e e2 sz m len cap : Nat} {base : Option Addr} {u : Value} {vs : List Value} {w : World} (hu : P.underlying t = some (.slice e)) (hs : szT P e = some sz) (hu2 : P.underlying t2 = some (.slice e2)) (hn : (Builtin.lenOf u).run P w = .ok m w) (hf : (Builtin.firstCells sz m u).run P w = .ok vs.toArray w) (hle : len + m ≤ cap) :
    (Builtin.append_ #[t, t2] ty #[.slice base len cap, u]).run P w = ((match base with | some a => storeCells (a.add (len * sz)) vs 0 | none => pure ()).run P w).andThen fun _ w' => .ok (.slice base (len + m) cap) w' := by
  unfold Builtin.append_
  simp only [List.getElem?_toArray, List.getElem?_cons_zero, List.getElem?_cons_succ, Sem.run_bind, run_underlying hu, Result.andThen_ok, run_underlying hu2, size_of_szT hs, Sem.run_pure, Bool.false_eq_true, if_false, hn, Bool.not_false, if_true, Sem.run_ite]
  rw [if_pos hle]
  simp only [hf, Sem.run_bind, Result.andThen_ok]
  cases base with
  | none => simp
  | some a => simp [Sem.run_bind]
theorem app_grow {t2 e e2 sz m len cap : Nat} {base : Option Addr} {u zv : Value} {xs vs : List Value} {ti : TypeInfo} {w : World} (hu : P.underlying t = some (.slice e)) (hs : szT P e = some sz) (hu2 : P.underlying t2 = some (.slice e2)) (hi : P.info? e = some ti) (hb : ti.bytes ≤ 1000000) (hz : ∀ w, (zeroValue e).run P w = .ok zv w)
    (hn : (Builtin.lenOf u).run P w = .ok m w) (hf : ∀ q, (Builtin.firstCells sz m u).run P { w with drawn := q } = .ok vs.toArray { w with drawn := q }) (hx : ∀ q, (Builtin.firstCells sz len (.slice base len cap)).run P { w with drawn := q } = .ok xs.toArray { w with drawn := q }) (hgt : ¬ len + m ≤ cap) (hmax : len + m ≤ 1000000) :
    ∃ nc, len + m ≤ nc ∧ (Builtin.append_ #[t, t2] ty #[.slice base len cap, u]).run P w = .ok (.slice (some ⟨w.heap.size, 0, none⟩) (len + m) nc) (({ w with drawn := w.drawn + 1 } : World).alloc (cel e (xs ++ vs ++ (Builtin.zeroCells zv.cells (nc - (len + m))).toList))) := by
  obtain ⟨q, hq⟩ : ∃ q, q = Question.appendCap (len + m) cap e := ⟨_, rfl⟩
  obtain ⟨nc, hnc1, hnc2⟩ : ∃ nc, (choose q).run P w = .ok nc { w with drawn := w.drawn + 1 } ∧ len + m ≤ nc := by
    refine ⟨q.cut (w.tape w.drawn q), by subst hq; simp [Question.forced], ?_⟩
    subst hq
    simp only [Question.cut]
    omega
  refine ⟨nc, hnc2, ?_⟩
  have hti : ∀ w, (typeInfo e).run P w = .ok ti w := fun w => by simp [typeInfo, hi]
  unfold Builtin.append_
  simp only [List.getElem?_toArray, List.getElem?_cons_zero, List.getElem?_cons_succ, Sem.run_bind, run_underlying hu, Result.andThen_ok, run_underlying hu2, size_of_szT hs, Sem.run_pure, Bool.false_eq_true, if_false, hn, Bool.not_false, if_true, Sem.run_ite]
  rw [if_neg hgt]
  have hnx := nextcap_le (n := len + m) (c := cap) (by omega)
  have hc1 : ¬ (((len + m : Nat) : Int) > IntKind.i64.max ∧ (False ∨ ti.bytes = 0)) := by
    rintro ⟨h1, _⟩
    have : IntKind.i64.max = 9223372036854775807 := by decide
    rw [this] at h1; omega
  have hc2 : ¬ (Builtin.nextslicecap (len + m) cap * ti.bytes > 2 ^ 48) := by
    have h1 : Builtin.nextslicecap (len + m) cap * ti.bytes ≤ (2 * 1000000 + 768) * 1000000 := Nat.mul_le_mul (by omega) hb
    omega
  simp only [hti, Sem.run_bind, Result.andThen_ok, Sem.run_ite, if_neg hc2]
  rw [if_neg (by simpa using hc1)]
  rw [← hq]
  simp only [Sem.run_bind, hnc1, Result.andThen_ok, hti, run_askRoom, hx, hf, hz, newRow, run_newObj, Sem.run_pure, World.alloc_eq]
  simp only [Result.ok.injEq, true_and]
  congr 2
  apply Array.ext'
  simp
theorem HR.move {nx' m : Nm} {L1 L2 : List Ent} {b c : Nat} {ob ob' : Obj} {u O' : O} (hH : HR σ nx h (L1 ++ (b, ob) :: L2)) (hm : get8 m h = some u) (hb : σ m = some (b, c)) (hx : nx'.val = nx.val + 1) (ho : OR σ c O' ob') : Sg.le σ (σ.ext nx (b, c)) ∧ HR (σ.ext nx (b, c)) nx' (set8 nx (some O') (set8 m none h)) (L1 ++ (b, ob') :: L2) := by
  have hle := Sg.le_ext hH.top (b, c)
  have hne : ∀ q : Nm, nx'.val ≤ q.val → q ≠ nx := fun q hq e => by subst e; omega
  have back : ∀ q y, q ≠ nx → get8 q (set8 nx (some O') (set8 m none h)) = some y → q ≠ m ∧ get8 q h = some y := fun q y e hq => by
    rw [get8_ne e] at hq
    by_cases e2 : q = m
    · subst e2; rw [get8_same] at hq; cases hq
    · exact ⟨e2, by rwa [get8_ne e2] at hq⟩
  have other : ∀ q y b' c', q ≠ m → get8 q h = some y → σ q = some (b', c') → b' ≠ b := fun q y b' c' e hq hs eb => e (hH.inj q m y u b c' c hq hm (by rw [← eb]; exact hs) hb)
  refine ⟨hle, fun q hq => ?_, fun p q u v b' c1 c2 hp hq hsp hsq => ?_, fun q y hq => ?_⟩
  · rw [Sg.ext_ne (hne q hq)]; exact hH.fresh q (by omega)
  · by_cases ep : p = nx
    · by_cases eq : q = nx
      · rw [ep, eq]
      · obtain ⟨e1, hq'⟩ := back q v eq hq
        rw [Sg.ext_ne eq] at hsq
        rw [ep, Sg.ext_same] at hsp
        injection hsp with hsp; injection hsp with e2 e3
        exact absurd e2.symm (other q v b' c2 e1 hq' hsq)
    · obtain ⟨e0, hp'⟩ := back p u ep hp
      rw [Sg.ext_ne ep] at hsp
      by_cases eq : q = nx
      · rw [eq, Sg.ext_same] at hsq
        injection hsq with hsq; injection hsq with e2 e3
        exact absurd e2.symm (other p u b' c1 e0 hp' hsp)
      · obtain ⟨e1, hq'⟩ := back q v eq hq
        rw [Sg.ext_ne eq] at hsq
        exact hH.inj p q u v b' c1 c2 hp' hq' hsp hsq
  · by_cases eq : q = nx
    · subst eq
      rw [get8_same] at hq; injection hq with hq; subst hq
      exact ⟨b, c, ob', Sg.ext_same _ _, by simp, ho.mono hle⟩
    · obtain ⟨e1, hq'⟩ := back q y eq hq
      obtain ⟨b1, c1, ob1, h1, h2, h3⟩ := hH.own q y hq'
      refine ⟨b1, c1, ob1, hle _ _ h1, ?_, h3.mono hle⟩
      have hbb := other q y b1 c1 e1 hq' h1
      rcases List.mem_append.1 h2 with h2 | h2
      · exact List.mem_append_left _ h2
      · rcases List.mem_cons.1 h2 with h2 | h2
        · injection h2 with h2 _; exact absurd h2 hbb
        · exact List.mem_append_right _ (List.mem_cons_of_mem _ h2)
structure AppR (P : Program) (w0 : World) (B : List Nat) (L : List Ent) (as : Array TypeId) (ty : TypeId) (e sz m : Nat) (u zv : Value) (vs : List Value) : Prop where
  fit : ∀ base len cap w, St w0 B w L → len + m ≤ cap → (Builtin.append_ as ty #[.slice base len cap, u]).run P w = ((match base with | some a => storeCells (a.add (len * sz)) vs 0 | none => pure ()).run P w).andThen fun _ w' => .ok (.slice base (len + m) cap) w'
  grow : ∀ base len cap xs w, St w0 B w L → (∀ q, (Builtin.firstCells sz len (.slice base len cap)).run P { w with drawn := q } = .ok xs { w with drawn := q }) → ¬ len + m ≤ cap → len + m ≤ 1000000 →
    ∃ nc, len + m ≤ nc ∧ (Builtin.append_ as ty #[.slice base len cap, u]).run P w = .ok (.slice (some ⟨w.heap.size, 0, none⟩) (len + m) nc) (({ w with drawn := w.drawn + 1 } : World).alloc (cel e (xs.toList ++ vs ++ (Builtin.zeroCells zv.cells (nc - (len + m))).toList)))
theorem zeroCells_len (a : Array Value) (m : Nat) : (Builtin.zeroCells a m).toList.length = m * a.size := by simp [Builtin.zeroCells]
section
variable {as : Array TypeId} {e sz m : Nat} {u zv : Value} {vs : List Value} {ys : List S} {K : V → Hp → Nm → Rs}
def AppOut (P : Program) (w0 : World) (B : List Nat) (σ : Sg) (as : Array TypeId) (ty : TypeId) (K : V → Hp → Nm → Rs) (r : Rs) (u0 u : Value) (w : World) : Prop :=
  ∃ σ' v' x' h' nx' w' L', Sg.le σ σ' ∧ okV σ' v' x' ∧ HR σ' nx' h' L' ∧ K v' h' nx' = r ∧ (Builtin.append_ as ty #[u0, u]).run P w = .ok x' w' ∧ St w0 B w' L'
theorem grow_new {base : Option Addr} {len cap need : Nat} {cs : List S} {xs : Array Value} (hA : AppR P w0 B L as ty e sz m u zv vs) (hz : zv.cells.size = sz) (hH : HR σ nx h L) (hr : growS e sz need cs h nx K = r) (hg : good r) (hnd : need = len + m) (hcs : All2 (okS σ) cs (xs.toList ++ vs)) (hl : cs.length = need * sz) (hgt : ¬ len + m ≤ cap) {w : World} (hw : St w0 B w L)
    (hx : ∀ q, (Builtin.firstCells sz len (.slice base len cap)).run P { w with drawn := q } = .ok xs { w with drawn := q }) : AppOut P w0 B σ as ty K r (.slice base len cap) u w := by
  obtain ⟨h1, h2⟩ := cond_ok hr hg
  have hmax := Nat.le_of_ble_eq_true h1
  obtain ⟨nx', h3, h4⟩ := newK_ok h2 hg
  obtain ⟨nc, h5, h6⟩ := hA.grow base len cap xs w hw hx hgt (by omega)
  have hlv := hcs.length
  have ho : OR σ nc (.c e sz need cs) (cel e (xs.toList ++ vs ++ (Builtin.zeroCells zv.cells (nc - (len + m))).toList)) := ⟨_, _, hcs, rfl, fun _ => ⟨hl, by
    rw [zeroCells_len, hz, ← hlv, hl, hnd, ← Nat.add_mul]; congr 1; omega⟩, fun h0 => List.length_eq_zero_iff.1 (by rw [zeroCells_len, hz, h0, Nat.mul_zero])⟩
  have hst := hw.drawn (w.drawn + 1)
  obtain ⟨h7, h8⟩ := hH.new h3 (b := w.heap.size) (cap := nc) (fun p hp e => by have := hw.lt hp; omega) ho
  subst hnd
  exact ⟨_, .s (.l nx 0 (len + m) 0 true), _, _, nx', _, _, h7, ⟨w.heap.size, nc, Sg.ext_same _ _, by omega, by simp⟩, h8, h4, h6, hst.alloc _⟩
theorem appS_ok {v : V} {u0 : Value} (hA : AppR P w0 B L as ty e sz m u zv vs) (hz : zv.cells.size = sz) (hH : HR σ nx h L) (hv : okV σ v u0) (hys : All2 (okS σ) ys vs) (hyl : ys.length = m * sz) (hr : appS e sz v ys m h nx K = r) (hg : good r) {w : World} (hw : St w0 B w L) : AppOut P w0 B σ as ty K r u0 u w := by
  have hvl := hys.length
  unfold appS at hr
  split at hr
  ·
    have hu0 : u0 = .slice none 0 0 := hv
    subst hu0
    cases hb : Nat.beq m 0 with
    | true =>
      have hm := Nat.eq_of_beq_eq_true hb
      rw [hb] at hr
      have h1 := hA.fit none 0 0 w hw (by omega)
      refine ⟨σ, .s (.x .sn), .slice none 0 0, h, nx, w, L, Sg.le.refl σ, rfl, hH, hr, ?_, hw⟩
      rw [h1, hm]; simp
    | false =>
      rw [hb] at hr
      have hm : m ≠ 0 := fun e => by subst e; simp at hb
      exact grow_new (xs := #[]) hA hz hH hr hg (by omega) (by simpa using hys) hyl (by omega) hw (fun q => by simp [Builtin.firstCells])
  ·
    rename_i nm o len c
    obtain ⟨bb, cp, cc, h1, rfl, h2, _⟩ := okV_l hv
    have := h2 rfl; subst this
    cases hb : Nat.beq m 0 with
    | true =>
      have hm := Nat.eq_of_beq_eq_true hb
      rw [hb] at hr
      obtain ⟨h3, h4⟩ := cond_ok (show cond (Nat.ble len cp) _ (.bad 24) = r from hr) hg
      have := Nat.le_of_ble_eq_true h3
      have h5 := hA.fit (some ⟨bb, o, none⟩) len cp w hw (by omega)
      have hv0 : vs = [] := List.length_eq_zero_iff.1 (by rw [← hvl, hyl, hm]; simp)
      refine ⟨σ, .s (.l nm o len cp false), .slice (some ⟨bb, o, none⟩) len cp, h, nx, w, L, Sg.le.refl σ, ⟨bb, cc, h1, rfl⟩, hH, h4, ?_, hw⟩
      rw [h5, hv0, hm]; simp [storeCells]
    | false =>
      rw [hb] at hr
      obtain ⟨q, rr, nn, ks, h3, h4⟩ := onC_ok (show onC (get8 nm h) _ = r from hr) hg
      cases hf : Nat.ble (Nat.add len m) cp with
      | true =>
        rw [hf] at h4
        obtain ⟨ks', h5, h6⟩ := onV_ok h4 hg
        have hle := Nat.le_of_ble_eq_true hf
        obtain ⟨w', L', h7, h8, h9⟩ := wr_ok (P := P) hH h3 h1 h5 hys hw
        have h10 := hA.fit (some ⟨bb, o, none⟩) len cp w hw hle
        refine ⟨σ, .s (.l nm o (len + m) cp false), .slice (some ⟨bb, o, none⟩) (len + m) cp, _, nx, w', L', Sg.le.refl σ, ⟨bb, cc, h1, rfl⟩, h9, h6, ?_, h8⟩
        rw [h10]
        simp only [addr_add]
        rw [show storeCells ⟨bb, o + len * sz, none⟩ vs 0 = storeCells ⟨bb, Nat.add o (Nat.mul len sz), none⟩ vs 0 from rfl, h7]; rfl
      | false =>
        rw [hf] at h4
        obtain ⟨xs, h5, h6⟩ := onV_ok h4 hg
        have hgt : ¬ len + m ≤ cp := fun hle => by rw [show Nat.ble (Nat.add len m) cp = true from Nat.ble_eq_true_of_le hle] at hf; cases hf
        obtain ⟨b', c', vv, junk, h7, h8, h9, _⟩ := cells_of hH h3
        rw [h1] at h7; injection h7 with h7; injection h7 with e1 e2; subst e1
        obtain ⟨h10, h11⟩ := cut_ok h5
        have h12 : All2 (okS σ) xs ((vv.drop o).take (len * sz)) := by rw [h10]; exact (h9.drop o).take _
        have h13 : ((vv.drop o).take (len * sz)).length = len * sz := by rw [← h12.length]; exact h11
        rw [app_eq] at h6
        refine grow_new (xs := ((vv.drop o).take (len * sz)).toArray) hA hz hH h6 hg rfl (by simpa using h12.append hys) ?_ hgt hw (fun q => ?_)
        · rw [List.length_append, hyl, h11]; exact (Nat.add_mul len m sz).symm
        · have := run_loadCells_list (P := P) { w with drawn := q } ⟨bb, o, none⟩ ((vv.drop o).take (len * sz)) (fun j v hv => by rw [addr_add]; exact cells_cut (hw.drawn q) h8 j v hv)
          rw [h13] at this
          simpa [Builtin.firstCells] using this
  ·
    rename_i nm o len c
    obtain ⟨bb, cp, cc, h1, rfl, _, h2⟩ := okV_l hv
    obtain ⟨h2b, rfl⟩ := h2 rfl
    cases hb : Nat.beq m 0 with
    | true =>
      have hm := Nat.eq_of_beq_eq_true hb
      rw [hb] at hr
      have h5 := hA.fit (some ⟨bb, o, none⟩) len (cc - c) w hw (by omega)
      have hv0 : vs = [] := List.length_eq_zero_iff.1 (by rw [← hvl, hyl, hm]; simp)
      refine ⟨σ, .s (.l nm o len c true), .slice (some ⟨bb, o, none⟩) len (cc - c), h, nx, w, L, Sg.le.refl σ, ⟨bb, cc, h1, h2b, rfl⟩, hH, hr, ?_, hw⟩
      rw [h5, hv0, hm]; simp [storeCells]
    | false =>
      rw [hb] at hr
      obtain ⟨q, rr, nn, ks, h3, h4⟩ := onC_ok (show onC (get8 nm h) _ = r from hr) hg
      obtain ⟨h5, h6⟩ := cond_ok h4 hg
      rw [Bool.and_eq_true] at h5
      have e1 := Nat.eq_of_beq_eq_true h5.1
      have e2 := blt_lt h5.2
      subst e1
      obtain ⟨b', c', vv, junk, h7, h8, h9, h9'⟩ := cells_of hH h3
      rw [h1] at h7; injection h7 with h7; injection h7 with e3 e4; subst e3 e4
      obtain ⟨g1, g2⟩ := h9'.1 (by omega)
      have g3 := h9.length
      cases hf : Nat.ble (Nat.add (Nat.add c len) m) nn with
      | true =>
        rw [hf] at h6
        obtain ⟨ks', h10, h11⟩ := onV_ok h6 hg
        have hle : c + len + m ≤ nn := Nat.le_of_ble_eq_true hf
        have hnn : nn ≤ cc := Nat.le_of_mul_le_mul_right (show nn * rr ≤ cc * rr by omega) e2
        obtain ⟨w', L', h12, h13, h14⟩ := wr_ok (P := P) hH h3 h1 h10 hys hw
        have h15 := hA.fit (some ⟨bb, o, none⟩) len (cc - c) w hw (by omega)
        refine ⟨σ, .s (.l nm o (len + m) c true), .slice (some ⟨bb, o, none⟩) (len + m) (cc - c), _, nx, w', L', Sg.le.refl σ, ⟨bb, cc, h1, by show c + (len + m) ≤ cc; omega, rfl⟩, h14, h11, ?_, h13⟩
        rw [h15]
        simp only [addr_add]
        rw [show storeCells ⟨bb, o + len * rr, none⟩ vs 0 = storeCells ⟨bb, Nat.add o (Nat.mul len rr), none⟩ vs 0 from rfl, h12]; rfl
      | false =>
        rw [hf] at h6
        obtain ⟨h10, h11⟩ := cond_ok h6 hg
        rw [Bool.and_eq_true, Bool.and_eq_true] at h10
        have e5 := Nat.eq_of_beq_eq_true h10.1.1
        have e6 := Nat.eq_of_beq_eq_true h10.1.2
        have e7 := Nat.eq_of_beq_eq_true h10.2
        subst e5 e6 e7
        obtain ⟨xs, h12, h13⟩ := onV_ok h11 hg
        have h14 : xs = ks.take (len * rr) ∧ xs.length = len * rr := by
          cases hq : Nat.beq len nn with
          | true =>
            rw [hq] at h12
            have := Nat.eq_of_beq_eq_true hq
            injection h12 with h12; subst h12 this
            exact ⟨(List.take_of_length_le (by omega)).symm, g1⟩
          | false =>
            rw [hq] at h12
            obtain ⟨h14, h15⟩ := cut_ok (show cut ks 0 (Nat.mul len rr) = some xs from h12)
            exact ⟨by rw [h14]; simp, h15⟩
        obtain ⟨h14, h15⟩ := h14
        have h16 : All2 (okS σ) xs (vv.take (len * rr)) := by rw [h14]; exact h9.take _
        have h17 : (vv.take (len * rr)).length = len * rr := by rw [← h16.length]; exact h15
        have h18 : All2 (okS σ) (xs ++ ys) (vv.take (len * rr) ++ vs) := h16.append hys
        have h19 : (xs ++ ys).length = (len + m) * rr := by rw [List.length_append, hyl, h15, Nat.add_mul]
        rw [app_eq] at h13
        by_cases hfit : len + m ≤ cc - 0
        ·
          obtain ⟨h20, h21⟩ := cond_ok h13 hg
          obtain ⟨nx', h22, h23⟩ := newK_ok h21 hg
          have h24 := hA.fit (some ⟨bb, 0, none⟩) len (cc - 0) w hw hfit
          obtain ⟨L1, L2, rfl⟩ := mem_split h8
          have hone : ∀ u ∈ vs, u.oneCell' = true := by
            intro u hu
            obtain ⟨i, hi, rfl⟩ := List.getElem_of_mem hu
            obtain ⟨v, hv, hok⟩ := hys.get (i := i) (a := ys[i]'(by omega)) (List.getElem?_eq_getElem _)
            have : vs[i] = v := by rw [List.getElem?_eq_getElem hi] at hv; exact Option.some.inj hv
            rw [this]; exact (okS_cell hok).2
          have hroom : len * rr + vs.length ≤ (vv ++ junk).length := by
            rw [List.length_append, g2, ← hvl, hyl, ← Nat.add_mul]; exact Nat.mul_le_mul_right _ (by omega)
          obtain ⟨w', h25, h26⟩ := store_cells (P := P) (off := len * rr) vs 0 (vv ++ junk) w hone hw (by omega)
          have e8 : (vv ++ junk).take (len * rr + 0) ++ vs ++ (vv ++ junk).drop (len * rr + 0 + vs.length) = (vv.take (len * rr) ++ vs) ++ (vv ++ junk).drop (len * rr + vs.length) := by
            rw [Nat.add_zero, List.take_append_of_le_length (by have := h17; simp at this; omega)]
          rw [e8] at h26
          obtain ⟨h27, h28⟩ := hH.move h3 h1 h22 (ob' := cel q (vv.take (len * rr) ++ vs ++ (vv ++ junk).drop (len * rr + vs.length))) (O' := .c q rr (len + m) (xs ++ ys)) ⟨_, _, h18, rfl, fun _ => ⟨h19, by
            rw [List.length_drop, List.length_append (as := vv), g2, ← h18.length, h19]
            have : len * rr + vs.length = (len + m) * rr := by rw [← hvl, hyl, Nat.add_mul]
            rw [this]
            have : (len + m) * rr ≤ cc * rr := Nat.mul_le_mul_right _ (by omega)
            omega⟩, fun h => absurd h (by omega)⟩
          refine ⟨_, .s (.l nx 0 (len + m) 0 true), .slice (some ⟨bb, 0, none⟩) (len + m) (cc - 0), _, nx', w', _, h27, ⟨bb, cc, Sg.ext_same _ _, by omega, rfl⟩, h28, h23, ?_, h26⟩
          rw [h24]
          simp only [addr_add, Nat.zero_add]
          rw [h25]; rfl
        ·
          have hnx : HR σ nx (set8 nm none h) L := hH.less
          refine grow_new (xs := (vv.take (len * rr)).toArray) hA hz hnx h13 hg rfl (by simpa using h18) h19 hfit hw (fun q' => ?_)
          have := run_loadCells_list (P := P) { w with drawn := q' } ⟨bb, 0, none⟩ (vv.take (len * rr)) (fun j v hv => by
            rw [addr_add]; have := cells_cut (o := 0) (m := len * rr) (hw.drawn q') h8; rw [List.drop_zero] at this; exact this j v hv)
          rw [h17] at this
          simpa [Builtin.firstCells] using this
  · subst hr; exact good_bad hg
end
theorem info_of {e : TypeId} (hb : bytesB P e = true) : ∃ ti, P.info? e = some ti ∧ ti.bytes ≤ 1000000 := by
  unfold bytesB at hb
  split at hb
  · rename_i i hi; exact ⟨i, hi, Nat.le_of_ble_eq_true hb⟩
  · cases hb
theorem does_app {e e2 sz : Nat} {z : List S} {ts : Array TypeId} (ht : ts = #[t, t']) (hu : P.underlying t = some (.slice e)) (hu2 : P.underlying t' = some (.slice e2)) (hs : szT P e = some sz) (hz : zeroL P e = some z) (hl : z.length = sz) (hb : bytesB P e = true) (hH : HR σ nx h L) (hE : OpsOk σ n env f #[x, y])
    (hr : r_app (dstP n d) e sz (trA n x) (trA n y) ih k env h nx dd = r) (hg : good r) : Dn P w0 B f σ L n k env dd r ⟨d, .call ⟨.builtin .append, #[x, y], ts⟩, ty, pos, af, g⟩ := by
  subst ht
  obtain ⟨v, h1, h2⟩ := onV_ok hr hg
  obtain ⟨⟨m, ys⟩, h3, h4⟩ := onV_ok h2 hg
  obtain ⟨v2, h5, h6⟩ := obind h3
  obtain ⟨vs, h7, h8, h9, h10⟩ := rdS_ok (P := P) (w0 := w0) (B := B) hH h6 (hE y (by simp) _ h5)
  obtain ⟨ti, hi, hbt⟩ := info_of hb
  obtain ⟨zv, h11, h12⟩ := zeroL_ok (σ := σ) hz
  have hzs : zv.cells.size = sz := by have := h11.length; simp at this; omega
  have hA : AppR P w0 B L #[t, t'] ty e sz m (f y) zv vs := ⟨fun base len cap w hw hle => app_fit hu hs hu2 (h9 w) (h10 w hw) hle, fun base len cap xs w hw hx hgt hmax => by
    have := app_grow (ty := ty) (xs := xs.toList) hu hs hu2 hi hbt h12 (h9 w) (fun q => h10 _ (hw.drawn q)) (fun q => by simpa using hx q) hgt hmax
    exact this⟩
  intro w hw
  obtain ⟨σ', v', x', h', nx', w', L', g1, g2, g3, g4, g5, g6⟩ := appS_ok hA hzs hH (hE x (by simp) _ h1) h7 h8 h4 hg hw
  exact ⟨σ', v', x', h', nx', w', L', g1, g2, g3, g4, .inl (by simp [execOp, resolve, invoke, builtin, Sem.run_bind, g5]), g6, fun h => Bool.noConfusion (show false = true from h)⟩
end
end Go.Proofs.YtpcdcemcjbeajaaGreatDoor
set_option linter.unusedVariables false
set_option linter.unusedSimpArgs false
namespace Go.Proofs.YtpcdcemcjbeajaaGreatDoor
open Go.RowKit
section
variable {P : Program} {w0 : World} {B : List Nat} {f : Operand → Value} {σ : Sg} {nx : Nm} {h : Hp} {L : List Ent} {n : Nat} {env : En} {k : Kt} {dd : List D} {r : Rs}
variable {d : Option Nat} {ty : TypeId} {pos : String} {af : Array Edge} {g : Option (Nat × Bool)} {ih : Ih} {x y z : Operand} {t t' : TypeId}
theorem zc_eq (a : Array Value) (m : Nat) : Builtin.zeroCells a m = ((List.replicate m a.toList).flatten).toArray := by
  have := range_cells a.toList m
  simpa [Builtin.zeroCells] using this
theorem appended_ok {e sz m : Nat} {zv : Value} (hz : ∀ w, (zeroValue e).run P w = .ok zv w) (hs : zv.cells.size = sz) (w : World) :
    ((if m * sz = 0 then pure #[] else do pure (Builtin.zeroCells (← zeroValue e).cells m)) : Sem (Array Value)).run P w = .ok ((List.replicate m zv.cells.toList).flatten).toArray w := by
  by_cases h0 : m * sz = 0
  · have : (List.replicate m zv.cells.toList).flatten = [] := by
      apply List.length_eq_zero_iff.1
      have : ((List.replicate m zv.cells.toList).flatten).length = m * zv.cells.size := by simp
      rw [this, hs]; exact h0
    rw [if_pos h0, this]; simp
  · rw [if_neg h0]; simp [Sem.run_bind, hz, zc_eq]
theorem app_fitZ {e sz m len cap : Nat} {k1 k2 : IntKind} {base : Option Addr} {zv : Value} {ti : TypeInfo} {w : World} (hu : P.underlying t = some (.slice e)) (hs : szT P e = some sz) (hu2 : P.underlying t' = some (.int k1)) (hi : P.info? e = some ti) (hb : ti.bytes ≤ 1000000) (hz : ∀ w, (zeroValue e).run P w = .ok zv w) (hzs : zv.cells.size = sz) (hm : m ≤ 1000000) (hle : len + m ≤ cap) :
    (Builtin.append_ #[t, t'] ty #[.slice base len cap, .int k2 (m : Int)]).run P w = ((match base with | some a => storeCells (a.add (len * sz)) ((List.replicate m zv.cells.toList).flatten) 0 | none => pure ()).run P w).andThen fun _ w' => .ok (.slice base (len + m) cap) w' := by
  have hw : IntKind.i64.wrap (m : Int) = m := wrap_i64 (by omega)
  have h1 : ¬ ((m : Int) < 0) := by omega
  have hti : ∀ w, (typeInfo e).run P w = .ok ti w := fun w => by simp [typeInfo, hi]
  have h2 : ¬ ((m : Int) * (ti.bytes : Int) > 2 ^ 48) := by
    have : m * ti.bytes ≤ 1000000 * 1000000 := Nat.mul_le_mul hm hb
    have h3 : ((m * ti.bytes : Nat) : Int) ≤ ((1000000 * 1000000 : Nat) : Int) := by exact_mod_cast this
    rw [Int.natCast_mul] at h3
    omega
  have hap := appended_ok (m := m) hz hzs w
  unfold Builtin.append_
  simp only [List.getElem?_toArray, List.getElem?_cons_zero, List.getElem?_cons_succ, Sem.run_bind, run_underlying hu, Result.andThen_ok, run_underlying hu2, size_of_szT hs, Sem.run_pure, if_true, asInt, asIntOf, hw, if_neg h1, hti, if_neg h2, Int.toNat_natCast, Sem.run_ite, Bool.not_true, Bool.false_eq_true, if_false]
  rw [if_pos hle]
  simp only [Sem.run_bind, Sem.run_ite, Sem.run_pure] at hap ⊢
  rw [hap]
  cases base with
  | none => simp
  | some a => simp [Sem.run_bind]
theorem app_growZ {e sz m len cap : Nat} {k1 k2 : IntKind} {base : Option Addr} {zv : Value} {xs : List Value} {ti : TypeInfo} {w : World} (hu : P.underlying t = some (.slice e)) (hs : szT P e = some sz) (hu2 : P.underlying t' = some (.int k1)) (hi : P.info? e = some ti) (hb : ti.bytes ≤ 1000000) (hz : ∀ w, (zeroValue e).run P w = .ok zv w) (hzs : zv.cells.size = sz) (hm : m ≤ 1000000)
    (hx : ∀ q, (Builtin.firstCells sz len (.slice base len cap)).run P { w with drawn := q } = .ok xs.toArray { w with drawn := q }) (hgt : ¬ len + m ≤ cap) (hmax : len + m ≤ 1000000) :
    ∃ nc, len + m ≤ nc ∧ (Builtin.append_ #[t, t'] ty #[.slice base len cap, .int k2 (m : Int)]).run P w = .ok (.slice (some ⟨w.heap.size, 0, none⟩) (len + m) nc) (({ w with drawn := w.drawn + 1 } : World).alloc (cel e (xs ++ ((List.replicate m zv.cells.toList).flatten) ++ (Builtin.zeroCells zv.cells (nc - (len + m))).toList))) := by
  have hw : IntKind.i64.wrap (m : Int) = m := wrap_i64 (by omega)
  have h1 : ¬ ((m : Int) < 0) := by omega
  have hti : ∀ w, (typeInfo e).run P w = .ok ti w := fun w => by simp [typeInfo, hi]
  have h2 : ¬ ((m : Int) * (ti.bytes : Int) > 2 ^ 48) := by
    have : m * ti.bytes ≤ 1000000 * 1000000 := Nat.mul_le_mul hm hb
    have h3 : ((m * ti.bytes : Nat) : Int) ≤ ((1000000 * 1000000 : Nat) : Int) := by exact_mod_cast this
    rw [Int.natCast_mul] at h3
    omega
  obtain ⟨q, hq⟩ : ∃ q, q = Question.appendCap (len + m) cap e := ⟨_, rfl⟩
  obtain ⟨nc, hnc1, hnc2⟩ : ∃ nc, (choose q).run P w = .ok nc { w with drawn := w.drawn + 1 } ∧ len + m ≤ nc := by
    refine ⟨q.cut (w.tape w.drawn q), by subst hq; simp [Question.forced], ?_⟩
    subst hq
    simp only [Question.cut]
    omega
  refine ⟨nc, hnc2, ?_⟩
  have hap := appended_ok (m := m) hz hzs { w with drawn := w.drawn + 1 }
  have hnx := nextcap_le (n := len + m) (c := cap) (by omega)
  have hc1 : ¬ (((len + m : Nat) : Int) > IntKind.i64.max) := by
    have : IntKind.i64.max = 9223372036854775807 := by decide
    rw [this]; omega
  have hc2 : ¬ (Builtin.nextslicecap (len + m) cap * ti.bytes > 2 ^ 48) := by
    have h1 : Builtin.nextslicecap (len + m) cap * ti.bytes ≤ (2 * 1000000 + 768) * 1000000 := Nat.mul_le_mul (by omega) hb
    omega
  unfold Builtin.append_
  simp only [List.getElem?_toArray, List.getElem?_cons_zero, List.getElem?_cons_succ, Sem.run_bind, run_underlying hu, Result.andThen_ok, run_underlying hu2, size_of_szT hs, Sem.run_pure, if_true, asInt, asIntOf, hw, if_neg h1, hti, if_neg h2, Int.toNat_natCast, Sem.run_ite, Bool.not_true, Bool.false_eq_true, if_false]
  rw [if_neg hgt]
  simp only [hti, Sem.run_bind, Result.andThen_ok, Sem.run_ite, if_neg hc2]
  rw [if_neg (fun hh => hc1 hh.1)]
  rw [← hq]
  simp only [Sem.run_bind, Sem.run_ite, Sem.run_pure] at hap
  simp only [Sem.run_bind, hnc1, Result.andThen_ok, hti, run_askRoom, hx]
  rw [hap]
  simp only [Result.andThen_ok, hz, newRow, Sem.run_bind, run_newObj, Sem.run_pure, World.alloc_eq]
  simp only [Result.ok.injEq, true_and]
  congr 2
  apply Array.ext'
  simp
theorem rep_len (z : List S) (m : Nat) : (rep z m).length = m * z.length := by rw [rep_eq]; simp
theorem does_appZ {e sz : Nat} {kk : IntKind} {z : List S} {ts : Array TypeId} (ht : ts = #[t, t']) (hu : P.underlying t = some (.slice e)) (hu2 : P.underlying t' = some (.int kk)) (hs : szT P e = some sz) (hz : zeroL P e = some z) (hl : z.length = sz) (hb : bytesB P e = true) (hH : HR σ nx h L) (hE : OpsOk σ n env f #[x, y])
    (hr : r_appZ (dstP n d) e sz z (trA n x) (trA n y) ih k env h nx dd = r) (hg : good r) : Dn P w0 B f σ L n k env dd r ⟨d, .call ⟨.builtin .append, #[x, y], ts⟩, ty, pos, af, g⟩ := by
  subst ht
  obtain ⟨v, h1, h2⟩ := onV_ok hr hg
  obtain ⟨i, a, h3, h4⟩ := onI_ok h2 hg
  obtain ⟨m, rfl, h5⟩ := onN_ok h4 hg
  obtain ⟨h6, h7⟩ := cond_ok h5 hg
  have hm := Nat.le_of_ble_eq_true h6
  obtain ⟨ti, hi, hbt⟩ := info_of hb
  obtain ⟨zv, h11, h12⟩ := zeroL_ok (σ := σ) hz
  have hzs : zv.cells.size = sz := by have := h11.length; simp at this; omega
  have hy := okV_i (hE y (by simp) _ h3)
  have hA : AppR P w0 B L #[t, t'] ty e sz m (.int i (m : Int)) zv ((List.replicate m zv.cells.toList).flatten) := ⟨fun base len cap w hw hle => app_fitZ hu hs hu2 hi hbt h12 hzs hm hle, fun base len cap xs w hw hx hgt hmax => by
    have := app_growZ (ty := ty) (k2 := i) (xs := xs.toList) hu hs hu2 hi hbt h12 hzs hm (fun q => by simpa using hx q) hgt hmax
    exact this⟩
  intro w hw
  obtain ⟨σ', v', x', h', nx', w', L', g1, g2, g3, g4, g5, g6⟩ := appS_ok hA hzs hH (hE x (by simp) _ h1) (rep_ok h11 m) (by rw [rep_len, hl]) h7 hg hw
  exact ⟨σ', v', x', h', nx', w', L', g1, g2, g3, g4, .inl (by simp [execOp, resolve, invoke, builtin, Sem.run_bind, hy, g5]), g6, fun h => Bool.noConfusion (show false = true from h)⟩
theorem rdS_take {sz m : Nat} {v : V} {ys : List S} {u : Value} (hH : HR σ nx h L) (hr : rdS sz h v = some (m, ys)) (ho : okV σ v u) : ∃ vs, All2 (okS σ) ys vs ∧ ys.length = m * sz ∧ (∀ w, (Builtin.lenOf u).run P w = .ok m w) ∧ ∀ j, j ≤ m → ∀ w, St w0 B w L → (Builtin.firstCells sz j u).run P w = .ok (vs.take (j * sz)).toArray w := by
  unfold rdS at hr
  split at hr
  · injection hr with hr; injection hr with e1 e2; subst e1 e2
    cases (show u = .slice none 0 0 from ho)
    exact ⟨[], trivial, by simp, fun w => by simp [Builtin.lenOf], fun j _ w _ => by simp [Builtin.firstCells]⟩
  · injection hr with hr; injection hr with e1 e2; subst e1 e2
    obtain ⟨a, c, rfl⟩ := (show okX σ .se u from ho)
    exact ⟨[], trivial, by simp, fun w => by simp [Builtin.lenOf], fun j hj w _ => by
      obtain rfl : j = 0 := by omega
      simp [Builtin.firstCells, loadCells, loadCellsFrom]⟩
  · rename_i nm o len _ _
    split at hr
    · rename_i q rr nn ks h1
      split at hr
      · rename_i l h2
        injection hr with hr; injection hr with e1 e2; subst e1 e2
        obtain ⟨bb, cp, cc, h3, rfl, _, _⟩ := okV_l ho
        obtain ⟨b', c', vs, junk, h4, h5, h6, _⟩ := cells_of hH h1
        rw [h3] at h4; injection h4 with h4; injection h4 with e1 e2; subst e1
        obtain ⟨h7, h8⟩ := cut_ok h2
        have h9 : All2 (okS σ) l ((vs.drop o).take (len * sz)) := by rw [h7]; exact (h6.drop o).take _
        refine ⟨_, h9, h8, fun w => by simp [Builtin.lenOf], fun j hj w hw => ?_⟩
        have h10 : ((vs.drop o).take (len * sz)).length = len * sz := by rw [← h9.length]; exact h8
        have hjs : j * sz ≤ len * sz := Nat.mul_le_mul_right _ hj
        have h11 : (((vs.drop o).take (len * sz)).take (j * sz)).length = j * sz := by rw [List.length_take, h10]; omega
        have h12 : ((vs.drop o).take (len * sz)).take (j * sz) = (vs.drop o).take (j * sz) := by rw [List.take_take]; congr 1; omega
        simp only [Builtin.firstCells]
        have := run_loadCells_list (P := P) w ⟨bb, o, none⟩ (((vs.drop o).take (len * sz)).take (j * sz)) (fun i v hv => by rw [addr_add]; rw [h12] at hv; exact cells_cut hw h5 i v hv)
        rw [h11] at this; exact this
      · cases hr
    · cases hr
  · cases hr
theorem does_copy {e sz : Nat} {ts : Array TypeId} (ht : ts[0]? = some t) (hu : P.underlying t = some (.slice e)) (hs : szT P e = some sz) (hH : HR σ nx h L) (hE : OpsOk σ n env f #[x, y])
    (hr : r_copy (dstP n d) sz (trA n x) (trA n y) ih k env h nx dd = r) (hg : good r) : Dn P w0 B f σ L n k env dd r ⟨d, .call ⟨.builtin .copy, #[x, y], ts⟩, ty, pos, af, g⟩ := by
  obtain ⟨⟨m, ys⟩, h1, h2⟩ := onV_ok hr hg
  obtain ⟨v2, h3, h4⟩ := obind h1
  obtain ⟨vs, h7, h8, h9, h10⟩ := rdS_take (P := P) (w0 := w0) (B := B) hH h4 (hE y (by simp) _ h3)
  have hsz := size_of_szT (P := P) hs
  split at h2
  · rename_i h5
    have hx : f x = .slice none 0 0 := hE x (by simp) _ h5
    refine .val (v := .s (.i .i64 (.ofNat 0))) (x := .int .i64 0) hH rfl h2 (fun w hw => ?_)
    have hf0 := h10 0 (by omega) w hw
    simp only [Nat.zero_mul, List.take_zero] at hf0
    simp [execOp, resolve, invoke, builtin, Builtin.copy_, ht, hx, Sem.run_bind, run_underlying hu, h9 w, hsz, hf0, goInt]
  · rename_i nm o len c rl h5
    obtain ⟨q, rr, nn, ks, h11, h12⟩ := onC_ok h2 hg
    obtain ⟨ys', h13, h14⟩ := onV_ok h12 hg
    obtain ⟨ks', h15, h16⟩ := onV_ok h14 hg
    obtain ⟨bb, cp, cc, h17, hx, _, _⟩ := okV_l (hE x (by simp) _ h5)
    obtain ⟨mm, hmm⟩ : ∃ mm, mm = cond (Nat.ble m len) m len := ⟨_, rfl⟩
    have hmin : mm = Nat.min m len := by
      rw [hmm]
      cases hb : Nat.ble m len with
      | true => have := Nat.le_of_ble_eq_true hb; simp only [cond_true]; exact (Nat.min_eq_left this).symm
      | false =>
        have : ¬ m ≤ len := fun hle => by rw [Nat.ble_eq_true_of_le hle] at hb; cases hb
        simp only [cond_false]; exact (Nat.min_eq_right (by omega)).symm
    have hle : mm ≤ m := by rw [hmin]; exact Nat.min_le_left _ _
    obtain ⟨h18, h19⟩ := tak_ok h13
    rw [← hmm] at h16 h18 h19
    have h20 : All2 (okS σ) ys' (vs.take (mm * sz)) := by rw [h18]; exact h7.take _
    intro w hw
    obtain ⟨w', L', h21, h22, h23⟩ := wr_ok (P := P) hH h11 h17 h15 h20 hw
    refine ⟨σ, .s (.i .i64 (.ofNat mm)), .int .i64 (mm : Int), _, nx, w', L', Sg.le.refl σ, rfl, h23, h16, .inl ?_, h22, fun h => Bool.noConfusion (show false = true from h)⟩
    have hf := h10 mm hle w hw
    rw [hmin] at hf h21 ⊢
    simp [execOp, resolve, invoke, builtin, Builtin.copy_, ht, hx, Sem.run_bind, run_underlying hu, h9 w, hsz, hf, goInt, h21]
  · subst h2; exact good_bad hg
theorem does_clr {e : TypeId} {z : List S} {ts : Array TypeId} (ht : ts[0]? = some t) (hu : P.underlying t = some (.slice e)) (hz : zeroL P e = some z) (hH : HR σ nx h L) (hE : OpsOk σ n env f #[x])
    (hr : r_clr (dstP n d) z (trA n x) ih k env h nx dd = r) (hg : good r) : Dn P w0 B f σ L n k env dd r ⟨d, .call ⟨.builtin .clear, #[x], ts⟩, ty, pos, af, g⟩ := by
  obtain ⟨zv, h11, h12⟩ := zeroL_ok (σ := σ) hz
  unfold r_clr at hr
  split at hr
  · rename_i h5
    have hx : f x = .slice none 0 0 := hE x (by simp) _ h5
    exact .val (v := .t []) (x := .tuple #[]) hH ⟨[], trivial, rfl⟩ hr (fun w hw => by simp [execOp, resolve, invoke, builtin, Builtin.clear_, ht, hx, Sem.run_bind, run_underlying hu])
  · rename_i h5
    obtain ⟨a, c, hx⟩ := (show okX σ .se (f x) from hE x (by simp) _ h5)
    exact .val (v := .t []) (x := .tuple #[]) hH ⟨[], trivial, rfl⟩ hr (fun w hw => by simp [execOp, resolve, invoke, builtin, Builtin.clear_, ht, hx, Sem.run_bind, run_underlying hu])
  · rename_i nm o len c rl h5
    obtain ⟨q, rr, nn, ks, h13, h14⟩ := onC_ok hr hg
    obtain ⟨ks', h15, h16⟩ := onV_ok h14 hg
    obtain ⟨bb, cp, cc, h17, hx, _, _⟩ := okV_l (hE x (by simp) _ h5)
    intro w hw
    obtain ⟨w', L', h21, h22, h23⟩ := wr_ok (P := P) hH h13 h17 h15 (rep_ok h11 len) hw
    refine ⟨σ, .t [], .tuple #[], _, nx, w', L', Sg.le.refl σ, ⟨[], trivial, rfl⟩, h23, h16, .inl ?_, h22, fun h => Bool.noConfusion (show false = true from h)⟩
    cases len with
    | zero =>
      simp [execOp, resolve, invoke, builtin, Builtin.clear_, ht, hx, Sem.run_bind, run_underlying hu]
      simpa [storeCells] using h21
    | succ len => simp [execOp, resolve, invoke, builtin, Builtin.clear_, ht, hx, Sem.run_bind, run_underlying hu, h12, zc_eq, h21]
  · subst hr; exact good_bad hg
end
end Go.Proofs.YtpcdcemcjbeajaaGreatDoor
set_option linter.unusedVariables false
set_option linter.unusedSimpArgs false
namespace Go.Proofs.YtpcdcemcjbeajaaGreatDoor
open Go.RowKit
def Called (P : Program) (g : FuncId) (args : List Value) (w : World) (L : List Ent) (R : Value → List Ent → Prop) : Prop :=
  ((∀ args w, (callFunc g args).run P w = .ok (.enter g args) w) ∧ Ctr P g args w L R) ∨ ∃ x w' L', (callFunc g args.toArray).run P w = .ok (.value x) w' ∧ St w (keys L) w' L' ∧ R x L'
def RdOk (c : Cx) : Bool → Prop
  | false => c.rd = none
  | true => ∃ l r, c.rd = some l ∧ c.w0.heap[l]? = some (.loop r) ∧ l ∉ c.S
def WL (c : Cx) (x : Code) (Q : Po) (ρ : Env) (ds : Ds) (L : List Ent) : Prop := ∀ w, St c.w0 c.S w L → ∀ (b : Frame) (kk : List Item) (cs : List Frame), b.roundOf = (FR c.rd).round → (FR c.rd).fn b.fn → (FR c.rd).room (cs.length + 1 + 0) →
  ∃ e a' w', lift c Q e a' w' ∧ ArrivesIn (Machine.fenced c.P (FR c.rd)) c.P (lone (b.atR (act c.n ρ ds) (.code x :: .inLoop x :: kk)) cs w) b kk cs e a' w'
theorem WL.toW {c : Cx} {x : Code} {Q : Po} {ρ : Env} {ds : Ds} {L : List Ent} (h : WL c x Q ρ ds L) : W c (.loop x) Q ρ ds L := by
  intro w hw b kk cs hro hb hroom
  obtain ⟨e, a', w', hq, harr⟩ := h w hw b kk cs hro hb hroom
  exact ⟨e, a', w', hq, .of_steps (.one (fenced_calm hb hroom rfl) stepR_loop) harr⟩
theorem WL.step {c : Cx} {x : Code} {Q : Po} {ρ : Env} {ds : Ds} {L : List Ent} (h : W c x (fun e ρ' ds' L' => match e with | .normal => WL c x Q ρ' ds' L' | e => Q e ρ' ds' L') ρ ds L) : WL c x Q ρ ds L := by
  intro w hw b kk cs hro hb hroom
  obtain ⟨e, a₁, w₁, hq, harr⟩ := h w hw b (.inLoop x :: kk) cs hro hb hroom
  obtain ⟨ρ1, ds1, L1, rfl, hst1, hq⟩ := hq
  cases e with
  | normal =>
    obtain ⟨e₂, a₂, w₂, hq₂, harr₂⟩ := hq w₁ hst1 b kk cs hro hb hroom
    exact ⟨e₂, a₂, w₂, hq₂, .of_steps (StepsIn.trans harr (.one (fenced_calm hb hroom rfl) stepR_inLoop)) harr₂⟩
  | exit id => exact ⟨_, _, w₁, ⟨ρ1, ds1, L1, rfl, hst1, hq⟩, .pass (x := .inLoop x) rfl (fun _ _ => .inl (by simp)) harr⟩
  | goto l => exact ⟨_, _, w₁, ⟨ρ1, ds1, L1, rfl, hst1, hq⟩, .pass (x := .inLoop x) rfl (fun _ _ => .inl (by simp)) harr⟩
  | ret => exact ⟨_, _, w₁, ⟨ρ1, ds1, L1, rfl, hst1, hq⟩, .pass (x := .inLoop x) rfl (fun _ _ => .inl (by simp)) harr⟩
  | panic ch => exact ⟨_, _, w₁, ⟨ρ1, ds1, L1, rfl, hst1, hq⟩, .pass (x := .inLoop x) rfl (fun _ _ => .inl (by simp)) harr⟩
  | outgrown => exact ⟨_, _, w₁, ⟨ρ1, ds1, L1, rfl, hst1, hq⟩, .pass (x := .inLoop x) rfl (fun _ _ => .inl (by simp)) harr⟩
def WX (c : Cx) (x : Code) (Q : Po) (ρ : Env) (ds : Ds) (L : List Ent) : Prop := match x with | .loop y => WL c y Q ρ ds L | x => W c x Q ρ ds L
theorem WX.toW {c : Cx} {x : Code} {Q : Po} {ρ : Env} {ds : Ds} {L : List Ent} (h : WX c x Q ρ ds L) : W c x Q ρ ds L := by
  cases x <;> first | exact h | exact WL.toW h
def CdOk (P : Program) (n : Nat) (q : Bool) (x : Code) (env : En) (h : Hp) (nx : Nm) (dd : List D) (e : Ex) (env' : En) (h' : Hp) (nx' : Nm) (dd' : List D) : Prop :=
  ∀ (c : Cx) σ ρ ds L, c.P = P → c.n = n → c.q = false → RdOk c q → ER σ n env ρ → HR σ nx h L → All2 (DR σ) dd ds →
    WX c x (fun e' ρ' ds' L' => e' = exE e ∧ ∃ σ', Sg.le σ σ' ∧ ER σ' n env' ρ' ∧ HR σ' nx' h' L' ∧ All2 (DR σ') dd' ds') ρ ds L
structure Snd (P : Program) (ih : Ih) : Prop where
  fn : ∀ g vs h nx v h' nx', ih (.F g vs h nx) = .F v h' nx' → ∀ σ w L args, All2 (okV σ) vs args → HR σ nx h L → (∀ p ∈ L, w.heap[p.1]? = some p.2) → (keys L).Nodup → Called P g args w L (fun x L' => ∃ σ', Sg.le σ σ' ∧ okV σ' v x ∧ HR σ' nx' h' L')
  cd : ∀ n q x env h nx dd e env' h' nx' dd', ih (.C n q x env h nx dd) = .C e env' h' nx' dd' → CdOk P n q x env h nx dd e env' h' nx' dd'
def Cont (c : Cx) (ol rest : List Oper) (o : Oper) (K : Ko) (Qp : Po) (ρ : Env) (σ : Sg) (k : Kt) (env : En) (r : Rs) (dd : List D) (ds : Ds) : Prop :=
  ∀ σ' v x h' nx' dd' ds' L', Sg.le σ σ' → okV σ' v x → HR σ' nx' h' L' → All2 (DR σ') dd' ds' → (notDefer o.op = true → dd' = dd ∧ ds' = ds) → k (put (dstP c.n o.dst) v env) h' nx' dd' = r → RL c ol rest K Qp (updO ρ o.dst x) ds' L'
section
variable {P : Program} {c : Cx} {ol rest : List Oper} {o : Oper} {K : Ko} {Qp : Po} {ρ : Env} {ds : Ds} {L : List Ent} {σ : Sg} {nx : Nm} {h : Hp} {env : En} {k : Kt} {dd : List D} {r : Rs} {ih : Ih}
theorem DR.all_mono {σ' : Sg} (hs : Sg.le σ σ') {l : List D} {m : Ds} (h : All2 (DR σ) l m) : All2 (DR σ') l m := h.mono (fun _ _ => DR.mono hs)
theorem rl_of_does (hq : c.q = false) (hw : wantE c.n ol ρ o = true) (hd : notDefer o.op = true) (hD : Does c.P c.w0 c.S (evE c.n ρ) o σ L (Nxt c.n o.dst k env dd r)) (hds : All2 (DR σ) dd ds) (hk : Cont c ol rest o K Qp ρ σ k env r dd ds) : RL c ol (o :: rest) K Qp ρ ds L :=
  RL.step hq hw hd fun w hst => by
    obtain ⟨σ', v, x, h', nx', w', L', h1, h2, h3, h4, h5, h6, _⟩ := hD w hst
    exact ⟨x, w', L', h5, h6, hk σ' v x h' nx' dd ds L' h1 h2 h3 (DR.all_mono h1 hds) (fun _ => ⟨rfl, rfl⟩) h4⟩
theorem appV_eq : ∀ (l m : List V), appV l m = l ++ m
  | [], m => rfl
  | x :: l, m => by show x :: appV l m = _; rw [appV_eq l m]; rfl
theorem capVs_ok : ∀ {caps : List (Nm × Nat)} {vs : List Value}, All2 (Pl σ) caps vs → All2 (okV σ) (capVs caps) vs
  | [], [], _ => trivial
  | a :: l, v :: m, h => ⟨h.1, capVs_ok h.2⟩
  | [], _ :: _, h => h.elim
  | _ :: _, [], h => h.elim
variable {d : Option Nat} {ty : TypeId} {pos : String} {af : Array Edge} {g : Option (Nat × Bool)} {xs : Array Operand} {ts : Array TypeId} {cal : Operand}
theorem St.keysS {w0 w w' : World} {S : List Nat} {L' : List Ent} (h : St w0 S w L) (h' : St w (keys L) w' L') : St w0 S w' L' := by
  have := St.comp (Lp := L) (Lr := []) (by simpa using h) h'
  simpa using this
theorem rl_callF (hP : c.P = P) (hq : c.q = false) (hw : wantE c.n ol ρ ⟨d, .call ⟨.value cal, xs, ts⟩, ty, pos, af, g⟩ = true) {gf : FuncId} {caps args : List Value} (hf : evE c.n ρ cal = .func (.func gf) #[] caps.toArray) (ha : argsE c.n ρ xs = args) {R : Value → List Ent → Prop}
    (hc : ∀ w, St c.w0 c.S w L → Called P gf (args ++ caps) w L R) (hR : ∀ x L', R x L' → RL c ol rest K Qp (updO ρ d x) ds L') : RL c ol (⟨d, .call ⟨.value cal, xs, ts⟩, ty, pos, af, g⟩ :: rest) K Qp ρ ds L := by
  subst hP
  have hrun : ∀ w, (execOp (evE c.n ρ) ⟨d, .call ⟨.value cal, xs, ts⟩, ty, pos, af, g⟩).run c.P w = (callFunc gf (args ++ caps).toArray).run c.P w := fun w => by
    subst ha
    have e : (argsE c.n ρ xs ++ caps).toArray = xs.map (evE c.n ρ) ++ caps.toArray := by apply Array.ext'; simp [argsE]
    rw [e]
    simp [execOp, resolve, Deferred.ofValue, hf, invoke, Sem.run_bind]
  rw [RL_f hq]
  intro w hst
  simp only [wpListIn]
  rw [want_act, hw, if_pos rfl]
  refine ⟨fun f _ => FR_fn _ _, ?_⟩
  rw [semAt_nd _ rfl, act_eval, hrun w]
  rcases hc w hst with ⟨he, h1⟩ | ⟨x, w', L', h1, h2, h3⟩
  · rw [he]
    refine ⟨FR_depth _, ?_⟩
    have h2 : CallsIn (FR c.rd) 0 c.P gf (args ++ caps).toArray w _ := h1
    refine h2.mono ?_
    rintro e w' ⟨v, L', rfl, h4, h5⟩
    have h6 := hR v L' h5
    rw [RL_f hq] at h6
    show wpListIn _ _ _ _ _ rest ((act c.n ρ ds).put d v) w'
    rw [act_put]; exact h6 w' (St.keysS hst h4)
  · rw [h1]
    have h6 := hR x L' h3
    rw [RL_f hq] at h6
    show wpListIn _ _ _ _ _ rest ((act c.n ρ ds).put d x) w'
    rw [act_put]; exact h6 w' (St.keysS hst h2)
theorem HR.drop {m : Nm} {L1 L2 : List Ent} {b cc : Nat} {ob : Obj} {x : O} (hH : HR σ nx h (L1 ++ (b, ob) :: L2)) (hm : get8 m h = some x) (hb : σ m = some (b, cc)) : HR σ nx (set8 m none h) (L1 ++ L2) := by
  have back : ∀ q y, get8 q (set8 m none h) = some y → q ≠ m ∧ get8 q h = some y := fun q y hq => by
    by_cases e : q = m
    · subst e; rw [get8_same] at hq; cases hq
    · exact ⟨e, by rwa [get8_ne e] at hq⟩
  refine ⟨hH.fresh, fun p q u v b' c d hp hq hsp hsq => hH.inj p q u v b' c d (back _ _ hp).2 (back _ _ hq).2 hsp hsq, fun q y hq => ?_⟩
  obtain ⟨e, hq⟩ := back q y hq
  obtain ⟨b1, c1, ob1, h1, h2, h3⟩ := hH.own q y hq
  have hne : b1 ≠ b := fun eb => e (hH.inj q m y x b c1 cc hq hm (by rw [← eb]; exact h1) hb)
  refine ⟨b1, c1, ob1, h1, ?_, h3⟩
  rcases List.mem_append.1 h2 with h2 | h2
  · exact List.mem_append_left _ h2
  · rcases List.mem_cons.1 h2 with h2 | h2
    · injection h2 with h2 _; exact absurd h2 hne
    · exact List.mem_append_right _ h2
theorem HR.back {m : Nm} {b cc : Nat} {ob : Obj} {x : O} (hH : HR σ nx h L) (hb : σ m = some (b, cc)) (hn : ∀ p ∈ L, p.1 ≠ b) (ho : OR σ cc x ob) : HR σ nx (set8 m (some x) h) ((b, ob) :: L) := by
  have other : ∀ q y b' c', get8 q h = some y → σ q = some (b', c') → b' ≠ b := fun q y b' c' hq hs e => by
    obtain ⟨b1, c1, ob1, h1, h2, _⟩ := hH.own q y hq
    rw [hs] at h1; injection h1 with h1; injection h1 with e1 e2
    exact hn _ h2 (by rw [← e1]; exact e)
  refine ⟨hH.fresh, fun p q u v b' c d hp hq hsp hsq => ?_, fun q y hq => ?_⟩
  · by_cases ep : p = m
    · by_cases eq : q = m
      · rw [ep, eq]
      · rw [get8_ne eq] at hq
        rw [ep, hb] at hsp; injection hsp with hsp; injection hsp with e1 e2
        exact absurd e1.symm (other q v b' d hq hsq)
    · rw [get8_ne ep] at hp
      by_cases eq : q = m
      · rw [eq, hb] at hsq; injection hsq with hsq; injection hsq with e1 e2
        exact absurd e1.symm (other p u b' c hp hsp)
      · rw [get8_ne eq] at hq
        exact hH.inj p q u v b' c d hp hq hsp hsq
  · by_cases eq : q = m
    · subst eq; rw [get8_same] at hq; injection hq with hq; subst hq
      exact ⟨b, cc, ob, hb, List.mem_cons_self, ho⟩
    · rw [get8_ne eq] at hq
      obtain ⟨b1, c1, ob1, h1, h2, h3⟩ := hH.own q y hq
      exact ⟨b1, c1, ob1, h1, List.mem_cons_of_mem _ h2, h3⟩
theorem setPs_ok {n : Nat} : ∀ {ps : List Nat} {vs : List V} {env env' : En} {ρ : Env} {args : List Value}, ER σ n env ρ → All2 (okV σ) vs args → setPs env n ps vs = some env' → ER σ n env' (updP ρ ps args) ∧ args.length = ps.length
  | [], [], env, env', ρ, [], hE, _, h => by injection h with h; subst h; exact ⟨hE, rfl⟩
  | p :: ps, v :: vs, env, env', ρ, x :: args, hE, hv, h => by
    have h' : cond (slotB p n) (setPs (mod4 (slotK p) (fun _ => some v) env) n ps vs) none = some env' := h
    cases hb : slotB p n with
    | false => rw [hb] at h'; cases h'
    | true =>
      rw [hb] at h'
      have h1 := er_put (d := some p) hE hv.1
      have e : put (dstP n (some p)) v env = mod4 (slotK p) (fun _ => some v) env := by
        show put (cond (slotB p n) (some (slotK p)) none) v env = _
        rw [hb]; rfl
      rw [e] at h1
      obtain ⟨h2, h3⟩ := setPs_ok (args := args) h1 hv.2 h'
      exact ⟨h2, by simp [h3]⟩
  | [], _ :: _, _, _, _, _, _, _, h => by cases h
  | _ :: _, [], _, _, _, _, _, _, h => by cases h
  | _ :: _, _ :: _, _, _, _, [], _, hv, _ => hv.elim
  | [], [], _, _, _, _ :: _, _, hv, _ => hv.elim
theorem yield_ok {m : Nm} {n b cc : Nat} {ps : List Nat} {asg body : Code} {env1 env2 env3 env4 : En} {vs : List V} {args : List Value} {h1 h4 : Hp} {nx1 nx4 : Nm} {e : Ex} (hS : Snd P ih) (hm : get8 m h = some (.lp .n n env1 ps asg body)) (hH : HR σ nx h L) (hv : All2 (okV σ) vs args) (hb : σ m = some (b, cc)) (h2 : setPs env1 n ps vs = some env2)
    (h3 : ih (.C n true asg env2 (set8 m none h) nx []) = .C .n env3 h1 nx1 []) (h5 : ih (.C n true body env3 h1 nx1 []) = .C e env4 h4 nx4 []) :
    ∃ LJ, LJ.Perm L ∧ ∀ w : World, (∀ p ∈ L, w.heap[p.1]? = some p.2) → (keys L).Nodup → YieldC P b args w LJ (fun bb L' => bb = isN e ∧ ∃ σ', Sg.le σ σ' ∧ ((keys L').Nodup → HR σ' nx4 (set8 m (some (.lp e n env1 ps asg body)) h4) L')) := by
  obtain ⟨b', c', ob, g1, g2, fn, ρ1, ds1, dfs, g3, rfl⟩ := hH.own _ _ hm
  rw [hb] at g1; injection g1 with g1; injection g1 with e1 e2; subst e1 e2
  obtain ⟨L1, L2, rfl⟩ := mem_split g2
  have hp : ((b, Obj.loop { state := LoopState.ready, pending := none, fn := fn, tmps := (act n ρ1 ds1).tmps, params := ps.toArray, assign := asg, body := body, defers := dfs }) :: ([] ++ (L1 ++ L2))).Perm (L1 ++ (b, Obj.loop { state := LoopState.ready, pending := none, fn := fn, tmps := (act n ρ1 ds1).tmps, params := ps.toArray, assign := asg, body := body, defers := dfs }) :: L2) := by
    simpa using List.perm_middle.symm
  refine ⟨_, hp, fun w hown hnd => ?_⟩
  have hown' : ∀ p ∈ ((b, Obj.loop { state := LoopState.ready, pending := none, fn := fn, tmps := (act n ρ1 ds1).tmps, params := ps.toArray, assign := asg, body := body, defers := dfs }) :: ([] ++ (L1 ++ L2))), w.heap[p.1]? = some p.2 := fun p hp' => hown p (hp.subset hp')
  have hnd' : (keys ((b, Obj.loop { state := LoopState.ready, pending := none, fn := fn, tmps := (act n ρ1 ds1).tmps, params := ps.toArray, assign := asg, body := body, defers := dfs }) :: ([] ++ (L1 ++ L2)))).Nodup := ((hp.map (fun (p : Ent) => p.1)).nodup_iff).2 hnd
  have hHd := hH.drop hm hb
  obtain ⟨k1, k2⟩ := setPs_ok g3 hv h2
  have hb1 : b ∉ keys (L1 ++ L2) := by
    have := hnd'; simp only [keys, List.map_cons, List.nil_append, List.nodup_cons] at this; exact this.1
  have hy := yield_of_body (P := P) (n := n) (ρ := ρ1) (ds := ds1) (args := args) (ps := ps.toArray) (assign := asg) (body := body) (fn := fn) (dfs := dfs) (Lx := []) (LB := L1 ++ L2) (w := w)
    (I := fun L' => e = .n ∧ ∃ σ', Sg.le σ σ' ∧ HR σ' nx4 h4 L') (Ix := fun ee L' => ee = exE e ∧ e ≠ .n ∧ ∃ σ', Sg.le σ σ' ∧ HR σ' nx4 h4 L') (Bd := fun ρ2 L2 => ∃ σ', Sg.le σ σ' ∧ ER σ' n env3 ρ2 ∧ HR σ' nx1 h1 L2) hown' hnd' (by simpa using k2) ?_ ?_
  · obtain ⟨fn', tm, as, bo, y1, y2⟩ := hy
    refine ⟨fn', tm, as, bo, y1, y2.mono ?_⟩
    rintro ee w' ⟨bb, L', rfl, y3, LB', ⟨e', y4, rfl⟩⟩
    have fin : ∀ σ', Sg.le σ σ' → HR σ' nx4 h4 LB' → e' = exE e → (keys ((b, Obj.loop { state := if (exJump e').isNone then LoopState.ready else LoopState.done, pending := exJump e', fn := fn, tmps := (act n ρ1 ds1).tmps, params := ps.toArray, assign := asg, body := body, defers := dfs }) :: ([] ++ LB'))).Nodup →
        HR σ' nx4 (set8 m (some (.lp e n env1 ps asg body)) h4) ((b, Obj.loop { state := if (exJump e').isNone then LoopState.ready else LoopState.done, pending := exJump e', fn := fn, tmps := (act n ρ1 ds1).tmps, params := ps.toArray, assign := asg, body := body, defers := dfs }) :: ([] ++ LB')) := by
      rintro σ' hle hH' rfl hnd2
      refine hH'.back (hle _ _ hb) (fun p hp' he => ?_) ⟨fn, ρ1, ds1, dfs, g3.mono hle, rfl⟩
      simp only [keys, List.map_cons, List.nil_append, List.nodup_cons] at hnd2
      exact hnd2.1 (List.mem_map.2 ⟨p, hp', he⟩)
    rcases y4 with ⟨rfl, rfl, rfl, σ', z1, z2⟩ | ⟨rfl, _, rfl, z0, σ', z1, z2⟩
    · exact ⟨true, _, rfl, y3, rfl, σ', z1, fun hn => fin σ' z1 z2 rfl hn⟩
    · refine ⟨false, _, rfl, y3, ?_, σ', z1, fun hn => fin σ' z1 z2 rfl hn⟩
      cases e with
      | n => exact absurd rfl z0
      | x id => rfl
      | r => rfl
  · have := hS.cd _ _ _ _ _ _ _ _ _ _ _ _ h3 ⟨P, some b, n, w, keys (L1 ++ L2), false⟩ σ (updP ρ1 ps args) [] (L1 ++ L2) rfl rfl rfl ⟨b, _, rfl, hown' _ List.mem_cons_self, hb1⟩ k1 hHd trivial
    refine W.mono this.toW ?_
    rintro e' ρ' ds' L' ⟨rfl, σ', z1, z2, z3, z4⟩
    cases ds' with
    | cons => exact z4.elim
    | nil => exact ⟨rfl, σ', z1, z2, z3⟩
  · rintro ρ2 L3 w2 ⟨σ', z1, z2, z3⟩ hst2
    have hb2 : b ∉ keys L3 := fun hm' => by
      have := hst2.nodup
      rw [List.map_append, List.nodup_append] at this
      exact this.2.2 _ hm' b (by simp) rfl
    have := hS.cd _ _ _ _ _ _ _ _ _ _ _ _ h5 ⟨P, some b, n, w2, keys L3, false⟩ σ' ρ2 [] L3 rfl rfl rfl ⟨b, _, rfl, hst2.own _ (List.mem_append_right _ List.mem_cons_self), hb2⟩ z2 z3 trivial
    refine W.mono this.toW ?_
    rintro e' ρ' ds' L' ⟨rfl, σ2, y1, y2, y3, y4⟩
    cases e with
    | n => exact ⟨L', List.Sublist.refl _, rfl, σ2, z1.trans y1, y3⟩
    | x id => exact ⟨L', List.Sublist.refl _, rfl, by simp, σ2, z1.trans y1, y3⟩
    | r => exact ⟨L', List.Sublist.refl _, rfl, by simp, σ2, z1.trans y1, y3⟩
theorem rl_call (hP : c.P = P) (hq : c.q = false) (hS : Snd P ih) (hw : wantE c.n ol ρ ⟨d, .call ⟨.value cal, xs, ts⟩, ty, pos, af, g⟩ = true) (hH : HR σ nx h L) (hds : All2 (DR σ) dd ds) (hE : OpsOk σ c.n env (evE c.n ρ) (#[cal] ++ xs))
    (hr : r_call (dstP c.n d) (trA c.n cal) (trAs c.n xs.toList) ih k env h nx dd = r) (hg : good r) (hk : Cont c ol rest ⟨d, .call ⟨.value cal, xs, ts⟩, ty, pos, af, g⟩ K Qp ρ σ k env r dd ds) : RL c ol (⟨d, .call ⟨.value cal, xs, ts⟩, ty, pos, af, g⟩ :: rest) K Qp ρ ds L := by
  obtain ⟨vs, h1, h2⟩ := onV_ok hr hg
  obtain ⟨s, h3, h4⟩ := onS_ok h2 hg
  have hvs : All2 (okV σ) vs (argsE c.n ρ xs) := getAs_ok (f := evE c.n ρ) (fun x hx => hE x (by simp; exact .inr (by simpa using hx))) h1
  have hcal := hE cal (by simp) _ h3
  cases s with
  | x e =>
    have h5 : onX e _ _ = r := h4
    unfold onX at h5
    split at h5
    · rename_i gf caps
      obtain ⟨v, h', nx', h6, h7⟩ := onF_ok h5 hg
      obtain ⟨cv, h8, h9⟩ := hcal
      rw [appV_eq] at h6
      refine rl_callF hP hq hw h9 rfl (R := fun x L' => ∃ σ', Sg.le σ σ' ∧ okV σ' v x ∧ HR σ' nx' h' L') (fun w hst => ?_) ?_
      · exact hS.fn gf _ h nx v h' nx' h6 σ w L _ (hvs.append (capVs_ok h8)) hH hst.own hst.nodup
      · rintro x L' ⟨σ', g1, g2, g3⟩
        exact hk σ' v x h' nx' dd ds L' g1 g2 g3 (DR.all_mono g1 hds) (fun _ => ⟨rfl, rfl⟩) h7
    · rename_i m
      obtain ⟨e', n', env1, ps, asg, body, h6, h7⟩ := onLp_ok h5 hg
      obtain ⟨rfl, h8⟩ := exN_ok h7 hg
      obtain ⟨env2, h9, h10⟩ := onV_ok h8 hg
      obtain ⟨e3, env3, hh1, nx1, ds3, h11, h12⟩ := onE_ok h10 hg
      obtain ⟨rfl, h13⟩ := exN_ok h12 hg
      obtain ⟨rfl, h14⟩ := noD_ok h13 hg
      obtain ⟨e4, env4, hh4, nx4, ds4, h15, h16⟩ := onE_ok h14 hg
      obtain ⟨rfl, h17⟩ := noD_ok h16 hg
      obtain ⟨b, cc, h18, h19⟩ := hcal
      obtain ⟨LJ, hp, hy⟩ := yield_ok (args := argsE c.n ρ xs) hS h6 hH hvs h18 h9 h11 h15
      subst hP
      refine RL.yield (l := b) (vals := argsE c.n ρ xs) (LJ := LJ) (Lo := []) hq hw h19 (by simpa using hp.symm) (fun w hst => hy w (fun p hp' => hst.own p (by simpa using hp.symm.subset hp')) ?_) rfl ?_
      · have := hst.nodup; rw [List.append_nil] at this; exact ((hp.map (fun (p : Ent) => p.1)).nodup_iff).1 this
      · rintro bb L' ⟨rfl, σ', g1, g2⟩
        rw [List.append_nil]
        refine RL.fact (p := (keys L').Nodup) hq (fun w hst => hst.nodup) (fun hnd => ?_)
        exact hk σ' (.s (.b (isN e4))) (.bool (isN e4)) _ nx4 dd ds L' g1 rfl (g2 hnd) (DR.all_mono g1 hds) (fun _ => ⟨rfl, rfl⟩) h17
    · subst h5; exact good_bad hg
  | _ => subst h4; exact good_bad hg
end
def OpSnd (P : Program) (ih : Ih) : Prop := ∀ (c : Cx) (q : Bool) (ol rest : List Oper) (o : Oper) (K : Ko) (Qp : Po) (ρ : Env) (ds : Ds) (L : List Ent) (σ : Sg) (nx : Nm) (h : Hp) (env : En) (k : Kt) (dd : List D) (r : Rs),
  c.P = P → c.q = false → RdOk c q → wantE c.n ol ρ o = true → HR σ nx h L → All2 (DR σ) dd ds → OpsOk σ c.n env (evE c.n ρ) o.op.operands → (trOp P c.n q (dstP c.n o.dst) o.op).run ih k env h nx dd = r → good r → Cont c ol rest o K Qp ρ σ k env r dd ds → RL c ol (o :: rest) K Qp ρ ds L
section
variable {P : Program} {c : Cx} {q : Bool} {ol rest : List Oper} {o : Oper} {K : Ko} {Qp : Po} {ρ : Env} {ds : Ds} {L : List Ent} {σ : Sg} {nx : Nm} {h : Hp} {env : En} {k : Kt} {dd : List D} {r : Rs} {ih : Ih}
def GdOk (σ : Sg) (n : Nat) (env : En) (ρ : Env) (ol : List Oper) (o : Oper) : Prop := ∀ j w d, o.guard = some (j, w) → (ol[j]?).bind (·.dst) = some d → d < n → d < 256 → ∀ v, get4 (slotK d) env = some v → okV σ v (ρ d)
theorem guarded_ok (hO : OpSnd P ih) (hP : c.P = P) (hq : c.q = false) (hrd : RdOk c q) (hH : HR σ nx h L) (hds : All2 (DR σ) dd ds) (hE : OpsOk σ c.n env (evE c.n ρ) o.op.operands) (hG : GdOk σ c.n env ρ ol o)
    (hr : guarded (trG c.n ol o.guard) (dstP c.n o.dst) (trOp P c.n q (dstP c.n o.dst) o.op) ih k env h nx dd = r) (hg : good r) (hk : Cont c ol rest o K Qp ρ σ k env r dd ds) : RL c ol (o :: rest) K Qp ρ ds L := by
  cases hgd : o.guard with
  | none =>
    rw [hgd] at hr
    exact hO c q ol rest o K Qp ρ ds L σ nx h env k dd r hP hq hrd (by unfold wantE; rw [hgd]) hH hds hE hr hg hk
  | some p =>
    obtain ⟨j, w⟩ := p
    rw [hgd] at hr
    cases hj : (ol[j]?).bind (·.dst) with
    | none =>
      have e : trG c.n ol (some (j, w)) = .bad := by unfold trG; simp only [hj]
      rw [e] at hr; subst hr; exact good_bad hg
    | some d =>
      have e : trG c.n ol (some (j, w)) = cond (slotB d c.n) (.on (slotK d) w) .bad := by unfold trG; simp only [hj]
      rw [e] at hr
      cases hb : slotB d c.n with
      | false => rw [hb] at hr; subst hr; exact good_bad hg
      | true =>
        rw [hb] at hr
        obtain ⟨hd1, hd2⟩ := slotB_ok hb
        have hr' : guard1 (dstP c.n o.dst) (trOp P c.n q (dstP c.n o.dst) o.op) (slotK d) w ih k env h nx dd = r := hr
        unfold guard1 at hr'
        have hy : ∀ v, ρ d = v → ylE c.n ol ρ j = (match v with | .bool b => some b | _ => none) := fun v hv => by
          unfold ylE; rw [hj]; simp only [blt_true hd1, cond_true, hv]
          cases v <;> rfl
        split at hr'
        · rename_i b hs
          have hv : ρ d = .bool b := hG j w d hgd hj hd1 hd2 _ hs
          cases hw : (cond w b (bnot b)) with
          | true =>
            rw [hw] at hr'
            refine hO c q ol rest o K Qp ρ ds L σ nx h env k dd r hP hq hrd ?_ hH hds hE hr' hg hk
            unfold wantE; rw [hgd]; simp only [hy _ hv]
            cases w <;> cases b <;> first | rfl | (cases hw; done)
          | false =>
            rw [hw] at hr'
            refine RL.skip ?_ (hk σ (.t []) undef h nx dd ds L (Sg.le.refl σ) ⟨[], trivial, rfl⟩ hH hds (fun _ => ⟨rfl, rfl⟩) hr')
            unfold wantE; rw [hgd]; simp only [hy _ hv]
            cases w <;> cases b <;> first | rfl | (cases hw; done)
        · rename_i hs
          have hv : ρ d = undef := by
            obtain ⟨vs, h1, h2⟩ := hG j w d hgd hj hd1 hd2 _ hs
            cases vs with
            | nil => exact h2
            | cons => exact h1.elim
          refine RL.skip ?_ (hk σ (.t []) undef h nx dd ds L (Sg.le.refl σ) ⟨[], trivial, rfl⟩ hH hds (fun _ => ⟨rfl, rfl⟩) hr')
          unfold wantE; rw [hgd]; simp only [hy _ hv]
          rfl
        · subst hr'; exact good_bad hg
theorem gdOk_of (h : ER σ c.n env ρ) : GdOk σ c.n env ρ ol o := fun j w d _ _ h1 h2 v hv => h d v h1 h2 hv
theorem runL_ok (hO : OpSnd P ih) (hP : c.P = P) (hq : c.q = false) (hrd : RdOk c q) : ∀ (l : List Oper) (σ : Sg) (ρ : Env) (ds : Ds) (L : List Ent) (env : En) (h : Hp) (nx : Nm) (dd : List D) (e : Ex) (env' : En) (h' : Hp) (nx' : Nm) (dd' : List D), ER σ c.n env ρ → HR σ nx h L → All2 (DR σ) dd ds → runL ih (trOps P c.n q ol l) endK env h nx dd = .C e env' h' nx' dd' →
    (∀ σ' ρ' ds' L', e = .n → Sg.le σ σ' → ER σ' c.n env' ρ' → HR σ' nx' h' L' → All2 (DR σ') dd' ds' → K ρ' ds' L') → RL c ol l K Qp ρ ds L
  | [], σ, ρ, ds, L, env, h, nx, dd, e, env', h', nx', dd', hE, hH, hds, hr, hK => by
    injection hr with e1 e2 e3 e4 e5
    subst e1 e2 e3 e4 e5
    exact RL.nil (hK σ ρ ds L rfl (Sg.le.refl σ) hE hH hds)
  | o :: l, σ, ρ, ds, L, env, h, nx, dd, e, env', h', nx', dd', hE, hH, hds, hr, hK =>
    guarded_ok hO hP hq hrd hH hds (opsOk_of hE _) (gdOk_of hE) (k := runL ih (trOps P c.n q ol l) endK) hr (fun n => by simp) fun σ1 v x h1 nx1 dd1 ds1 L1 g1 g2 g3 g4 _ g5 =>
      runL_ok hO hP hq hrd l σ1 _ ds1 L1 _ h1 nx1 dd1 e env' h' nx' dd' (er_put (hE.mono g1) g2) g3 g4 g5 (fun σ2 ρ2 ds2 L2 z0 z1 => hK σ2 ρ2 ds2 L2 z0 (g1.trans z1))
end
def DrawSnd (P : Program) (ih : Ih) : Prop := ∀ (n : Nat) (q : Bool) (id : Nat) (ops : List Oper) (env : En) (h : Hp) (nx : Nm) (dd : List D) (e : Ex) (env' : En) (h' : Hp) (nx' : Nm) (dd' : List D), runR P n q ih ops env h nx dd = .C e env' h' nx' dd' → CdOk P n q (.region id ops.toArray true) env h nx dd e env' h' nx' dd'
def RfSnd (P : Program) (ih : Ih) : Prop := ∀ (n : Nat) (q : Bool) (f : Operand) (ps : Array Nat) (asg body : Code) (env : En) (h : Hp) (nx : Nm) (dd : List D) (e : Ex) (env' : En) (h' : Hp) (nx' : Nm) (dd' : List D), r_rf P n q (trA n f) ps.toList asg body ih env h nx dd = .C e env' h' nx' dd' → CdOk P n q (.rangeFunc f ps asg body) env h nx dd e env' h' nx' dd'
section
variable {P : Program} {ih : Ih}
theorem thenK_ok {r : Rs} {k : Kt} {e : Ex} {env' : En} {h' : Hp} {nx' : Nm} {dd' : List D} (hr : thenK r k = .C e env' h' nx' dd') : ∃ e1 env1 h1 nx1 dd1, r = .C e1 env1 h1 nx1 dd1 ∧ ((e1 = .n ∧ k env1 h1 nx1 dd1 = .C e env' h' nx' dd') ∨ (e1 ≠ .n ∧ e1 = e ∧ env1 = env' ∧ h1 = h' ∧ nx1 = nx' ∧ dd1 = dd')) := by
  obtain ⟨e1, env1, h1, nx1, dd1, g1, g2⟩ := onE_ok hr (fun n => by simp)
  refine ⟨e1, env1, h1, nx1, dd1, g1, ?_⟩
  cases e1 with
  | n => exact .inl ⟨rfl, g2⟩
  | x j => injection g2 with a1 a2 a3 a4 a5; exact .inr ⟨by simp, a1, a2, a3, a4, a5⟩
  | r => injection g2 with a1 a2 a3 a4 a5; exact .inr ⟨by simp, a1, a2, a3, a4, a5⟩
theorem evC_ok (hS : Snd P ih) (hO : OpSnd P ih) (hD : DrawSnd P ih) (hF : RfSnd P ih) (n : Nat) (q : Bool) : ∀ (x : Code) (env : En) (h : Hp) (nx : Nm) (dd : List D) (e : Ex) (env' : En) (h' : Hp) (nx' : Nm) (dd' : List D), evC P n q x ih env h nx dd = .C e env' h' nx' dd' → CdOk P n q x env h nx dd e env' h' nx' dd' := by
  intro x
  induction x with
  | skip =>
    intro env h nx dd e env' h' nx' dd' hr c σ ρ ds L hP hn hq hrd hE hH hds
    injection hr with e1 e2 e3 e4 e5; subst e1 e2 e3 e4 e5
    exact X.skip (k := []) (X.nil ⟨rfl, σ, Sg.le.refl σ, hE, hH, hds⟩)
  | region id ops draw =>
    intro env h nx dd e env' h' nx' dd' hr
    have hr' : cond draw (runR P n q ih ops.toList env h nx dd) (runL ih (trOps P n q ops.toList ops.toList) endK env h nx dd) = .C e env' h' nx' dd' := hr
    cases draw with
    | true => have := hD n q id ops.toList env h nx dd e env' h' nx' dd' hr'; simpa using this
    | false =>
      intro c σ ρ ds L hP hn hq hrd hE hH hds
      subst hn
      have h1 := X.region (k := []) (id := id) (l := ops.toList) (Q := fun e' ρ' ds' L' => e' = exE e ∧ ∃ σ', Sg.le σ σ' ∧ ER σ' c.n env' ρ' ∧ HR σ' nx' h' L' ∧ All2 (DR σ') dd' ds') hq
        (runL_ok hO hP hq hrd ops.toList σ ρ ds L env h nx dd e env' h' nx' dd' hE hH hds hr' (fun σ' ρ' ds' L' z0 z1 z2 z3 z4 => by subst z0; exact ⟨rfl, σ', z1, z2, z3, z4⟩))
      rw [show ops.toList.toArray = ops by simp] at h1
      exact h1
  | seq a b iha ihb =>
    intro env h nx dd e env' h' nx' dd' hr c σ ρ ds L hP hn hq hrd hE hH hds
    obtain ⟨e1, env1, h1, nx1, dd1, g1, g2⟩ := thenK_ok (show thenK (evC P n q a ih env h nx dd) (evC P n q b ih) = _ from hr)
    refine X.seq (k := []) ?_
    refine W.mono (iha _ _ _ _ _ _ _ _ _ g1 c σ ρ ds L hP hn hq hrd hE hH hds).toW ?_
    rintro e' ρ' ds' L' ⟨rfl, σ', z1, z2, z3, z4⟩
    rcases g2 with ⟨rfl, g2⟩ | ⟨g0, rfl, rfl, rfl, rfl, rfl⟩
    · refine W.mono (ihb _ _ _ _ _ _ _ _ _ g2 c σ' ρ' ds' L' hP hn hq hrd z2 z3 z4).toW ?_
      rintro e'' ρ'' ds'' L'' ⟨rfl, σ'', y1, y2, y3, y4⟩
      exact ⟨rfl, σ'', z1.trans y1, y2, y3, y4⟩
    · cases e1 with
      | n => exact absurd rfl g0
      | x j => exact ⟨rfl, σ', z1, z2, z3, z4⟩
      | r => exact ⟨rfl, σ', z1, z2, z3, z4⟩
  | cond o a b iha ihb =>
    intro env h nx dd e env' h' nx' dd' hr c σ ρ ds L hP hn hq hrd hE hH hds
    obtain ⟨bb, g1, g2⟩ := onB_ok (show onB (getA env (trA n o)) (fun t => cond t (evC P n q a ih env h nx dd) (evC P n q b ih env h nx dd)) = _ from hr) (fun n => by simp)
    subst hn
    have hb := okV_b (trA_ok hE g1)
    refine X.cond (k := []) (b := bb) hb ?_
    cases bb with
    | true => exact (iha _ _ _ _ _ _ _ _ _ g2 c σ ρ ds L hP rfl hq hrd hE hH hds).toW
    | false => exact (ihb _ _ _ _ _ _ _ _ _ g2 c σ ρ ds L hP rfl hq hrd hE hH hds).toW
  | block id a iha =>
    intro env h nx dd e env' h' nx' dd' hr c σ ρ ds L hP hn hq hrd hE hH hds
    obtain ⟨e1, env1, h1, nx1, dd1, g1, g2⟩ := onE_ok (show onE (evC P n q a ih env h nx dd) _ = _ from hr) (fun n => by simp)
    refine X.block (k := []) ?_
    refine W.mono (iha _ _ _ _ _ _ _ _ _ g1 c σ ρ ds L hP hn hq hrd hE hH hds).toW ?_
    rintro e' ρ' ds' L' ⟨rfl, σ', z1, z2, z3, z4⟩
    cases e1 with
    | n => injection g2 with a1 a2 a3 a4 a5; subst a1 a2 a3 a4 a5; exact ⟨rfl, σ', z1, z2, z3, z4⟩
    | r => injection g2 with a1 a2 a3 a4 a5; subst a1 a2 a3 a4 a5; exact ⟨rfl, σ', z1, z2, z3, z4⟩
    | x j =>
      have g3 : cond (Nat.beq j id) (Rs.C .n env1 h1 nx1 dd1) (.C (.x j) env1 h1 nx1 dd1) = .C e env' h' nx' dd' := g2
      show (if j = id then _ else _)
      cases hb : Nat.beq j id with
      | true =>
        rw [hb] at g3; injection g3 with a1 a2 a3 a4 a5; subst a1 a2 a3 a4 a5
        rw [if_pos (Nat.eq_of_beq_eq_true hb)]; exact ⟨rfl, σ', z1, z2, z3, z4⟩
      | false =>
        rw [hb] at g3; injection g3 with a1 a2 a3 a4 a5; subst a1 a2 a3 a4 a5
        rw [if_neg (fun e => by subst e; simp at hb)]; exact ⟨rfl, σ', z1, z2, z3, z4⟩
  | loop a iha =>
    intro env h nx dd e env' h' nx' dd' hr c σ ρ ds L hP hn hq hrd hE hH hds
    obtain ⟨e1, env1, h1, nx1, dd1, g1, g2⟩ := thenK_ok (show thenK (evC P n q a ih env h nx dd) (fun env h nx ds => ih (.C n q (.loop a) env h nx ds)) = _ from hr)
    refine WL.step ?_
    refine W.mono (iha _ _ _ _ _ _ _ _ _ g1 c σ ρ ds L hP hn hq hrd hE hH hds).toW ?_
    rintro e' ρ' ds' L' ⟨rfl, σ', z1, z2, z3, z4⟩
    rcases g2 with ⟨rfl, g2⟩ | ⟨g0, rfl, rfl, rfl, rfl, rfl⟩
    · have := hS.cd _ _ _ _ _ _ _ _ _ _ _ _ g2 c σ' ρ' ds' L' hP hn hq hrd z2 z3 z4
      have hw : WL c a _ ρ' ds' L' := this
      intro w hw' b kk cs hro hb hroom
      obtain ⟨e2, a2, w2, ⟨ρ2, ds2, L2, rfl, hst2, rfl, σ2, y1, y2, y3, y4⟩, harr⟩ := hw w hw' b kk cs hro hb hroom
      exact ⟨_, _, w2, ⟨ρ2, ds2, L2, rfl, hst2, rfl, σ2, z1.trans y1, y2, y3, y4⟩, harr⟩
    · cases e1 with
      | n => exact absurd rfl g0
      | x j => exact ⟨rfl, σ', z1, z2, z3, z4⟩
      | r => exact ⟨rfl, σ', z1, z2, z3, z4⟩
  | rangeFunc f ps asg body _ _ =>
    intro env h nx dd e env' h' nx' dd' hr
    exact hF n q f ps asg body env h nx dd e env' h' nx' dd' hr
  | exit id =>
    intro env h nx dd e env' h' nx' dd' hr c σ ρ ds L hP hn hq hrd hE hH hds
    injection hr with e1 e2 e3 e4 e5; subst e1 e2 e3 e4 e5
    exact X.exit_out (k := []) rfl ⟨rfl, σ, Sg.le.refl σ, hE, hH, hds⟩
  | scope a iha =>
    intro env h nx dd e env' h' nx' dd' hr c σ ρ ds L hP hn hq hrd hE hH hds
    cases q with
    | true => cases (show Rs.bad 45 = .C e env' h' nx' dd' from hr)
    | false =>
      refine X.scope (k := []) hrd ?_
      refine W.mono (iha _ _ _ _ _ _ _ _ _ hr c σ ρ ds L hP hn hq hrd hE hH hds).toW ?_
      rintro e' ρ' ds' L' ⟨rfl, z⟩
      cases e <;> exact ⟨rfl, z⟩
  | label l =>
    intro env h nx dd e env' h' nx' dd' hr c σ ρ ds L hP hn hq hrd hE hH hds
    injection hr with e1 e2 e3 e4 e5; subst e1 e2 e3 e4 e5
    exact X.label (k := []) (X.nil ⟨rfl, σ, Sg.le.refl σ, hE, hH, hds⟩)
  | goto l =>
    intro env h nx dd e env' h' nx' dd' hr
    cases (show Rs.bad 46 = .C e env' h' nx' dd' from hr)
  | ret =>
    intro env h nx dd e env' h' nx' dd' hr c σ ρ ds L hP hn hq hrd hE hH hds
    injection hr with e1 e2 e3 e4 e5; subst e1 e2 e3 e4 e5
    exact X.ret (k := []) ⟨rfl, σ, Sg.le.refl σ, hE, hH, hds⟩
  | refuse why =>
    intro env h nx dd e env' h' nx' dd' hr
    cases (show Rs.bad 47 = .C e env' h' nx' dd' from hr)
end
end Go.Proofs.YtpcdcemcjbeajaaGreatDoor
