/- The document's reader. -/
import Derived.Test.YtdnnnbjmjjdcfaaG1
import Derived.Test.YtdnnnbjmjjdcfaaE3
import Derived.Test.YtdnnnbjmjjdcfaaC4
set_option linter.unusedVariables false
set_option linter.unusedSimpArgs false
namespace Go.Proofs.Ytdnnnbjmjjdcfaa
open Go.RowKit
attribute [local irreducible] X RL W Ctr
theorem rCls_ids (r : List Int) : ∀ g, ∀ c ∈ (rCls r g).1, c.id.length = 16 ∧ ∀ f ∈ c.faces, FaceOk f
  | 0, c, hc => by cases hc
  | g + 1, c, hc => by
    rcases List.mem_append.1 (show c ∈ (rCls r g).1 ++ [(rClass r (rCls r g).2).1] from hc) with h | h
    · exact rCls_ids r g c h
    · rw [List.mem_singleton] at h
      subst h
      exact ⟨rId_len _ _, rFaces_ok _ _ _⟩
theorem ref_yes {r : List Int} {m : List Cl} (hid : ∀ c ∈ m, c.id.length = 16 ∧ ∀ f ∈ c.faces, FaceOk f) (hv : (mcheckP m).2 = 0) (he : encP m = r) : decP r = some m := by rw [← he]; exact dec_back hid hv
theorem ref_none {r : List Int} {g : Nat} (hb : Byt r) (hg : g ≤ (r.getD 0 0).toNat) (hst : g = (r.getD 0 0).toNat ∨ r.length ≤ (rCls r g).2) (hno : ¬ ((mcheckP (rCls r g).1).2 = 0 ∧ encP (rCls r g).1 = r)) : decP r = none := by
  cases h : decP r with
  | none => rfl
  | some m =>
    exfalso
    unfold decP at h
    cases h1 : pMod r with
    | none => rw [h1] at h; cases h
    | some k =>
      rw [h1] at h
      simp only [Option.bind_some] at h
      split at h
      · rename_i hc
        have := ref_some hb h1 hg hst
        rw [this] at hno
        exact hno hc
      · cases h
theorem f_samebytesG (xs ys : List Int) (hx : xs.length ≤ 1000000) (hy : ys.length ≤ 1000000) (A B : Option Addr) (c d : Nat) (w : World) (h1 : Rd w A (gcells xs)) (h2 : Rd w B (gcells ys)) :
    Ctr Try.prog 15 [.slice A xs.length c, .slice B ys.length d] w [] fun v _ => v = .bool (decide (xs = ys)) := by
 obtain ⟨bb, oo, hA0, hc⟩ := h1
 obtain ⟨bb2, oo2, hB0, hc2⟩ := h2
 have hA : 0 < xs.length → A = some ⟨bb, oo, none⟩ := fun h => hA0 (by rw [gcells_len]; omega)
 have hB : 0 < ys.length → B = some ⟨bb2, oo2, none⟩ := fun h => hB0 (by rw [gcells_len]; omega)
 refine Ctr.intro0 (n := 26) Try.func15 rfl Try.ntmps15 (Nat.le_of_ble_eq_true rfl) ?_
 refine X.seq ?_
 refine X.region rfl ?_
 refine RL.assign rfl ?_
 refine RL.nil ?_
 refine X.seq ?_
 refine X.seq ?_
 refine X.region rfl ?_
 refine RL.move rfl ?_
 refine RL.len rfl sl40 rfl ?_
 refine RL.move rfl ?_
 refine RL.len rfl sl40 rfl ?_
 refine RL.cmp_s rfl rfl rfl rfl (fun hl => ?_) (fun hl => ?_)
 ·replace hl : (_ : Int) ≠ _ := hl
  refine RL.nil ?_
  refine X.cond_t rfl ?_
  refine X.seq ?_
  refine X.region rfl ?_
  refine RL.assign rfl ?_
  refine RL.nil ?_
  refine X.ret ?_
  refine ret1 rfl ?_
  show (_ : Value) = _
  rw [decide_eq_false (fun e => hl (by rw [e]))]
 ·replace hl : ¬ ((_ : Int) ≠ _) := hl
  have hll : xs.length = ys.length := by omega
  refine RL.nil ?_
  refine X.cond_f rfl ?_
  refine X.skip ?_
  refine X.seq ?_
  refine X.seq ?_
  refine X.region rfl ?_
  refine RL.assign rfl ?_
  refine RL.nil ?_
  refine X.block ?_
  refine X.loop (γ := Nat) (fun g ρ L => (g ≤ xs.length) ∧ (∀ j, j < g → xs[j]? = ys[j]?) ∧ Has ρ [(0, .slice A xs.length c), (1, .slice B ys.length d), (5, .int .i64 g)] ∧ L = []) (fun g => xs.length - g) (0) ⟨_, (by repeat (first | exact List.Sublist.refl _ | exact List.nil_sublist _ | (rw [List.append_nil]; exact List.Sublist.refl _) | exact List.sublist_append_left _ _ | exact (List.sublist_append_left _ _).trans (List.sublist_append_left _ _) | apply List.Sublist.cons_cons | apply List.Sublist.cons | refine List.Sublist.trans ?_ (List.sublist_append_right _ _))), Nat.zero_le _, (fun j hj => absurd hj (Nat.not_lt_zero j)), ⟨rfl, rfl, rfl, trivial⟩, rfl⟩ ?_
  rintro g _ _ ⟨hg, hq, hρ, rfl⟩
  obtain ⟨base, rfl⟩ := hρ.base
  clear hρ
  refine X.seq ?_
  refine X.seq ?_
  refine X.region rfl ?_
  refine RL.move rfl ?_
  refine RL.move rfl ?_
  refine RL.len rfl sl40 rfl ?_
  refine RL.cmp_s rfl rfl rfl rfl (fun hlt => ?_) (fun hlt => ?_)
  ·replace hlt : (_ : Int) < _ := hlt
   obtain ⟨x, hx1⟩ : ∃ x, xs[g]? = some x := ⟨_, List.getElem?_eq_getElem (by omega)⟩
   obtain ⟨y, hy1⟩ : ∃ y, ys[g]? = some y := ⟨_, List.getElem?_eq_getElem (by omega)⟩
   have hx2 : (gcells xs)[g]? = some (.int .u8 x) := by simp only [gcells, List.getElem?_map, hx1]; rfl
   have hy2 : (gcells ys)[g]? = some (.int .u8 y) := by simp only [gcells, List.getElem?_map, hy1]; rfl
   refine RL.nil ?_
   refine X.cond_t rfl ?_
   refine X.skip ?_
   refine X.seq ?_
   refine X.block ?_
   refine X.seq ?_
   refine X.draw (by kernel_rfl) (by kernel_rfl) ?_
   refine RL.move rfl ?_
   refine RL.move rfl ?_
   refine RL.indexAddr rfl sl40 rfl rfl (hA (by omega)) rfl (by omega) ?_
   refine RL.loadI rfl sc5 rfl (by rw [Nat.mul_one]; exact hc g _ hx2) (by simp) ?_
   refine RL.move rfl ?_
   refine RL.move rfl ?_
   refine RL.indexAddr rfl sl40 rfl rfl (hB (by omega)) rfl (by omega) ?_
   refine RL.loadI rfl sc5 rfl (by rw [Nat.mul_one]; exact hc2 g _ hy2) (by simp) ?_
   refine RL.cmp_s rfl rfl rfl rfl (fun hne => ?_) (fun hne => ?_)
   ·replace hne : (_ : Int) ≠ _ := hne
    refine RL.nil ?_
    refine X.cond_t rfl ?_
    refine X.seq ?_
    refine X.region rfl ?_
    refine RL.assign rfl ?_
    refine RL.nil ?_
    refine X.ret ?_
    refine ret1 rfl ?_
    show (_ : Value) = _
    rw [decide_eq_false (fun e => hne (by rw [e, hy1] at hx1; exact (Option.some.inj hx1).symm))]
   ·replace hne : ¬ ((_ : Int) ≠ _) := hne
    have hxy : x = y := by omega
    refine RL.nil ?_
    refine X.cond_f rfl ?_
    refine X.skip ?_
    refine X.blk ?_
    refine X.region rfl ?_
    refine RL.move rfl ?_
    refine RL.add rfl rfl rfl (by omega) ?_
    refine RL.assign rfl ?_
    refine RL.nil ?_
    refine X.hyp ⟨rfl, g + 1, by omega, _, (by repeat (first | exact List.Sublist.refl _ | exact List.nil_sublist _ | (rw [List.append_nil]; exact List.Sublist.refl _) | exact List.sublist_append_left _ _ | exact (List.sublist_append_left _ _).trans (List.sublist_append_left _ _) | apply List.Sublist.cons_cons | apply List.Sublist.cons | refine List.Sublist.trans ?_ (List.sublist_append_right _ _))), by omega, (fun j hj => by
        rcases Nat.lt_succ_iff_lt_or_eq.1 hj with h3 | rfl
        · exact hq j h3
        · rw [hx1, hy1, hxy]), ⟨rfl, rfl, rfl, trivial⟩, rfl⟩
  ·replace hlt : ¬ ((_ : Int) < _) := hlt
   refine RL.nil ?_
   refine X.cond_f rfl ?_
   refine X.exit rfl ?_
   refine X.seq ?_
   refine X.region rfl ?_
   refine RL.assign rfl ?_
   refine RL.nil ?_
   refine X.ret ?_
   refine ret1 rfl ?_
   show (_ : Value) = _
   rw [decide_eq_true (List.ext_getElem? (fun j => by
     rcases Nat.lt_or_ge j xs.length with h | h
     · exact hq j (by omega)
     · rw [List.getElem?_eq_none h, List.getElem?_eq_none (by omega)]))]
set_option maxHeartbeats 2000000 in
set_option maxRecDepth 20000 in
theorem f_rdecode (r : List Int) (hlen : r.length ≤ 1000000) (hbyt : Byt r) (A : Option Addr) (cp : Nat) (w : World) (hrd : Rd w A (gcells r)) (h20k : r.length ≤ 20000) :
    Ctr Try.prog 19 [.slice A r.length cp] w [] fun v L => (∃ m Am cm Lm, decP r = some m ∧ v = .tuple #[.agg #[.slice Am m.length cm], .bool true] ∧ ModO m Am cm Lm ∧ Lm.Sublist L) ∨ (decP r = none ∧ v = .tuple #[.agg #[.slice none 0 0], .bool false]) := by
 have hb0 := hbyt.at 0
 refine Ctr.intro0 (n := 153) Try.func19 rfl Try.ntmps19 (Nat.le_of_ble_eq_true rfl) ?_
 refine X.seq ?_
 refine X.region rfl ?_
 refine RL.alloc rfl rfl zt24 ?_
 intro b2 hb2
 dsimp only at hb2
 refine RL.assign rfl ?_
 refine RL.nil ?_
 refine X.seq ?_
 refine X.region rfl ?_
 refine RL.alloc rfl rfl zt24 ?_
 intro b4 hb4
 dsimp only at hb4
 refine RL.nil ?_
 refine X.seq ?_
 refine X.region rfl ?_
 refine RL.assign rfl ?_
 refine RL.nil ?_
 refine X.seq ?_
 refine X.seq ?_
 refine X.region rfl ?_
 refine RL.assign rfl ?_
 refine RL.nil ?_
 refine X.block ?_
 refine X.loop (γ := Nat) (fun g ρ L => ∃ P : Nat, ∃ Am : Option Addr, ∃ cm : Nat, ∃ css : List (List Value), ∃ Lm : List Ent, ∃ Ls : List Ent, (g ≤ (r.getD 0 0).toNat) ∧ ((rCls r g).2 = P) ∧ (P ≤ 1 + 700000 * g) ∧ ((rCls r g).1.length = g) ∧ (∀ c ∈ (rCls r g).1, ClSz c) ∧ (Row 38 19 (.slice Am ((rCls r g).1).length cm) (css.flatten) Lm) ∧ (ClsO (rCls r g).1 css Ls) ∧ Has ρ [(0, .slice A r.length cp), (2, .pointer (some ⟨b2, 0, none⟩)), (4, .pointer (some ⟨b4, 0, none⟩)), (5, .int .i64 (P : Int)), (6, .int .i64 g)] ∧ L = Lm ++ (Ls ++ [(b4, cel 24 [.slice Am ((rCls r g).1).length cm]), (b2, cel 24 [.slice none 0 0])])) (fun g => (r.getD 0 0).toNat - g) (0) ⟨_, (by repeat (first | exact List.Sublist.refl _ | exact List.nil_sublist _ | (rw [List.append_nil]; exact List.Sublist.refl _) | exact List.sublist_append_left _ _ | exact (List.sublist_append_left _ _).trans (List.sublist_append_left _ _) | apply List.Sublist.cons_cons | apply List.Sublist.cons | refine List.Sublist.trans ?_ (List.sublist_append_right _ _))), 1, none, 0, [], [], [], Nat.zero_le _, rfl, by omega, rfl, (fun c hc => by cases hc), Row.nil, ClsO.nil, ⟨rfl, rfl, rfl, rfl, rfl, trivial⟩, rfl⟩ ?_
 rintro g _ _ ⟨P, Am, cm, css, Lm, Ls, hg, hP, hPb, hgl, hcz, hrm, hco, hρ, rfl⟩
 obtain ⟨base, rfl⟩ := hρ.base
 clear hρ
 have h255 : g ≤ 255 := by omega
 refine X.seq ?_
 refine X.seq ?_
 refine X.region rfl ?_
 refine RL.move rfl ?_
 refine RL.move rfl ?_
 refine RL.fnQ (v := .int .i64 (r.getD (0) 0)) rfl rfl en36 (fun w1 hw1 => f_at r hlen hbyt A cp w1 (hrd.stN hw1 (fun b o he => by simp)) (0)) rfl ?_
 refine RL.cmp_s rfl rfl rfl rfl (fun hlt => ?_) (fun hlt => ?_)
 ·replace hlt : (_ : Int) < _ := hlt
  refine RL.move rfl ?_
  refine RL.move rfl ?_
  refine RL.move rfl ?_
  refine RL.len rfl sl40 rfl ?_
  refine RL.cmp_s rfl rfl rfl rfl (fun hlp => ?_) (fun hlp => ?_)
  ·replace hlp : (_ : Int) < _ := hlp
   have hid := rId_len r P
   have hb16 := hbyt.at (P + 16)
   have hPB : P ≤ 200000000 := by omega
   refine RL.pick_t rfl rfl ?_
   refine RL.nil ?_
   refine X.cond_t rfl ?_
   refine X.skip ?_
   refine X.seq ?_
   refine X.block ?_
   refine X.seq ?_
   refine X.region rfl ?_
   refine RL.move rfl ?_
   refine RL.move rfl ?_
   refine RL.fnQ (v := .agg (gcells (rId r (P))).toArray) rfl rfl en37 (fun w1 hw1 => f_guid r hlen hbyt A cp w1 (hrd.stN hw1 (fun b o he => by simp)) (P) (by omega)) rfl ?_
   refine RL.bldC (vs := [(0, .agg (gcells (rId r P)).toArray)]) (cells := clCells (rId r P) (.slice none 0 0) 0 (.slice none 0 0)) rfl rfl (build_cl hid) ?_
   refine RL.alloc rfl rfl zt38 ?_
   intro b7 hb7
   dsimp only at hb7
   refine RL.stA rfl rfl ag38.size rfl rfl (clCells_len hid) rfl clCells_one ?_
   refine RL.nil ?_
   refine X.seq ?_
   refine X.region rfl ?_
   refine RL.move rfl ?_
   refine RL.move rfl ?_
   refine RL.add rfl rfl rfl (by omega) ?_
   refine RL.fnQ (v := .int .i64 (r.getD (P + 16) 0)) rfl rfl en36 (fun w1 hw1 => f_at r hlen hbyt A cp w1 (hrd.stN hw1 (fun b o he => by simp)) (P + 16)) rfl ?_
   refine RL.assign rfl ?_
   refine RL.nil ?_
   refine X.seq ?_
   refine X.region rfl ?_
   refine RL.move rfl ?_
   refine RL.add rfl rfl rfl (by omega) ?_
   refine RL.assign rfl ?_
   refine RL.nil ?_
   refine X.seq ?_
   refine X.seq ?_
   refine X.region rfl ?_
   refine RL.assign rfl ?_
   refine RL.nil ?_
   refine X.block ?_
   refine X.loop (γ := Nat) (fun h ρ L => ∃ Af : Option Addr, ∃ cf : Nat, ∃ Lf : List Ent, (h ≤ (r.getD (P + 16) 0).toNat) ∧ (Row 72 17 (.slice Af (h) cf) (fcells (rFaces r (P + 17) (h))) Lf) ∧ Has ρ [(0, .slice A r.length cp), (2, .pointer (some ⟨b2, 0, none⟩)), (4, .pointer (some ⟨b4, 0, none⟩)), (5, .int .i64 ((P + 17 + 17 * h : Nat) : Int)), (6, .int .i64 g), (7, .pointer (some ⟨b7, 0, none⟩)), (8, .int .i64 (r.getD (P + 16) 0)), (9, .int .i64 h)] ∧ L = Lf ++ ((b7, cel 38 (clCells (rId r P) (.slice Af h cf) (0) (.slice none 0 0))) :: (Lm ++ (Ls ++ [(b4, cel 24 [.slice Am ((rCls r g).1).length cm]), (b2, cel 24 [.slice none 0 0])])))) (fun h => (r.getD (P + 16) 0).toNat - h) (0) ⟨_, (by repeat (first | exact List.Sublist.refl _ | exact List.nil_sublist _ | (rw [List.append_nil]; exact List.Sublist.refl _) | exact List.sublist_append_left _ _ | exact (List.sublist_append_left _ _).trans (List.sublist_append_left _ _) | apply List.Sublist.cons_cons | apply List.Sublist.cons | refine List.Sublist.trans ?_ (List.sublist_append_right _ _))), none, 0, [], Nat.zero_le _, Row.nil, ⟨rfl, rfl, rfl, rfl, rfl, rfl, rfl, rfl, trivial⟩, rfl⟩ ?_
   rintro h _ _ ⟨Af, cf, Lf, hh, hrf, hρ, rfl⟩
   obtain ⟨base, rfl⟩ := hρ.base
   clear hρ
   refine X.seq ?_
   refine X.seq ?_
   refine X.region rfl ?_
   refine RL.move rfl ?_
   refine RL.move rfl ?_
   refine RL.cmp_s rfl rfl rfl rfl (fun hl2 => ?_) (fun hl2 => ?_)
   ·replace hl2 : (_ : Int) < _ := hl2
    have hbq := hbyt.at (P + 17 + 17 * h + 16)
    have hhB : h ≤ 255 := by omega
    refine RL.nil ?_
    refine X.cond_t rfl ?_
    refine X.skip ?_
    refine X.seq ?_
    refine X.block ?_
    refine X.seq ?_
    refine X.set [.val (.pointer (some ⟨b7, 0 + 16, none⟩)), .val (.slice Af h cf), .val (.slice A r.length cp), .val (.int .i64 ((P + 17 + 17 * h : Nat) : Int)), .val (.agg (gcells (rId r (P + 17 + 17 * h))).toArray), .val (.slice A r.length cp), .val (.int .i64 ((P + 17 + 17 * h : Nat) : Int)), .val (.int .i64 ((((P + 17 + 17 * h : Nat) : Int)) + (16))), .val (.int .i64 (r.getD (P + 17 + 17 * h + 16) 0)), .val (.int .i64 (((r.getD (P + 17 + 17 * h + 16) 0)) - (1))), .val (.agg (rFace r (P + 17 + 17 * h)).cells.toArray), .any, .any, .val (.pointer (some ⟨b7, 0 + 16, none⟩)), .any] [[], [0], [], [], [2, 3], [], [], [6], [2, 3, 4, 5, 6, 7], [2, 3, 4, 5, 6, 7, 8], [2, 3, 4, 5, 6, 7, 8, 9], [2, 3, 4, 5, 6, 7, 8, 9, 10], [0, 1, 2, 3, 4, 5, 6, 7, 8, 9, 10, 11], [0, 1, 2, 3, 4, 5, 6, 7, 8, 9, 10, 11, 12], [0, 1, 2, 3, 4, 5, 6, 7, 8, 9, 10, 11, 12, 13]] (fun D ρ L => (D 11 = false ∧ D 12 = false ∧ D 14 = false ∧ True ∧ Has ρ [] ∧ L.Perm ((Lf) ++ (([(b7, cel 38 (clCells (rId r P) (.slice Af h cf) (0) (.slice none 0 0)))]) ++ ((Lm) ++ ((Ls) ++ (([(b4, cel 24 [.slice Am ((rCls r g).1).length cm])]) ++ ([(b2, cel 24 [.slice none 0 0])]))))))) ∨ (D 11 = true ∧ D 12 = false ∧ D 14 = false ∧ True ∧ ∃ bb55 : Nat, Has ρ [(55, .slice (some ⟨bb55, 0, none⟩) 1 1)] ∧ L.Perm ((Lf) ++ (([(b7, cel 38 (clCells (rId r P) (.slice Af h cf) (0) (.slice none 0 0)))]) ++ ((Lm) ++ ((Ls) ++ (([(b4, cel 24 [.slice Am ((rCls r g).1).length cm])]) ++ (([(b2, cel 24 [.slice none 0 0])]) ++ ([(bb55, cel 72 (rFace r (P + 17 + 17 * h)).cells)])))))))) ∨ (D 11 = true ∧ D 12 = true ∧ D 14 = false ∧ True ∧ ∃ bb55 : Nat, ∃ A56 : Option Addr, ∃ cp56 : Nat, ∃ Lr56 : List Ent, (Row 72 17 (.slice A56 (h + 1) cp56) (fcells (rFaces r (P + 17) (h + 1))) Lr56) ∧ Has ρ [(55, .slice (some ⟨bb55, 0, none⟩) 1 1), (56, .slice A56 (h + 1) cp56)] ∧ L.Perm ((Lr56) ++ (([(b7, cel 38 (clCells (rId r P) (.slice Af h cf) (0) (.slice none 0 0)))]) ++ ((Lm) ++ ((Ls) ++ (([(b4, cel 24 [.slice Am ((rCls r g).1).length cm])]) ++ (([(b2, cel 24 [.slice none 0 0])]) ++ ([(bb55, cel 72 (rFace r (P + 17 + 17 * h)).cells)])))))))) ∨ (D 11 = true ∧ D 12 = true ∧ D 14 = true ∧ True ∧ ∃ bb55 : Nat, ∃ A56 : Option Addr, ∃ cp56 : Nat, ∃ Lr56 : List Ent, (Row 72 17 (.slice A56 (h + 1) cp56) (fcells (rFaces r (P + 17) (h + 1))) Lr56) ∧ Has ρ [(55, .slice (some ⟨bb55, 0, none⟩) 1 1), (56, .slice A56 (h + 1) cp56)] ∧ L.Perm ((Lr56) ++ (([(b7, cel 38 (clCells (rId r P) (.slice A56 (h + 1) cp56) (0) (.slice none 0 0)))]) ++ ((Lm) ++ ((Ls) ++ (([(b4, cel 24 [.slice Am ((rCls r g).1).length cm])]) ++ (([(b2, cel 24 [.slice none 0 0])]) ++ ([(bb55, cel 72 (rFace r (P + 17 + 17 * h)).cells)]))))))))) rfl (by kernel_rfl) (by kernel_rfl) (by kernel_rfl) (by kernel_rfl) (fun D hD => .inl ⟨hD 11, hD 12, hD 14, trivial, trivial, (List.Perm.refl _)⟩) ⟨?_, ?_, ?_, ?_, ?_, ?_, ?_, ?_, ?_, ?_, ?_, ?_, ?_, ?_, ?_, trivial⟩ ?_
    ·intro ρ L D hS
     rcases hS.sp with ⟨e11, e12, e14, -, hρ, hL⟩ | ⟨e11, e12, e14, -, bb55, hρ, hL⟩ | ⟨e11, e12, e14, -, bb55, A56, cp56, Lr56, hp0, hρ, hL⟩ | ⟨e11, e12, e14, -, bb55, A56, cp56, Lr56, hp0, hρ, hL⟩
     ·have u7 : ρ 7 = .pointer (some ⟨b7, 0, none⟩) := hS.fix 7 (by decide)
      clear hS hρ
      obtain ⟨base, rfl⟩ := Has.base (ρ := ρ) (l := [(7, .pointer (some ⟨b7, 0, none⟩))]) ⟨u7, trivial⟩
      clear u7
      refine RL.perm (L' := ((Lf) ++ (([(b7, cel 38 (clCells (rId r P) (.slice Af h cf) (0) (.slice none 0 0)))]) ++ ((Lm) ++ ((Ls) ++ (([(b4, cel 24 [.slice Am ((rCls r g).1).length cm])]) ++ ([(b2, cel 24 [.slice none 0 0])]))))))) rfl hL.symm ?_
      clear hL
      refine RL.fieldAddr rfl fd38_1 rfl ?_
      refine RL.nil ?_
      exact ⟨rfl, ⟨_, rfl, rfl⟩, .inl ⟨e11, e12, e14, trivial, trivial, List.Perm.refl _⟩⟩
     ·have u7 : ρ 7 = .pointer (some ⟨b7, 0, none⟩) := hS.fix 7 (by decide)
      have u55 : ρ 55 = .slice (some ⟨bb55, 0, none⟩) 1 1 := hρ.1
      clear hS hρ
      obtain ⟨base, rfl⟩ := Has.base (ρ := ρ) (l := [(7, .pointer (some ⟨b7, 0, none⟩)), (55, .slice (some ⟨bb55, 0, none⟩) 1 1)]) ⟨u7, u55, trivial⟩
      clear u7 u55
      refine RL.perm (L' := ((Lf) ++ (([(b7, cel 38 (clCells (rId r P) (.slice Af h cf) (0) (.slice none 0 0)))]) ++ ((Lm) ++ ((Ls) ++ (([(b4, cel 24 [.slice Am ((rCls r g).1).length cm])]) ++ (([(b2, cel 24 [.slice none 0 0])]) ++ ([(bb55, cel 72 (rFace r (P + 17 + 17 * h)).cells)])))))))) rfl hL.symm ?_
      clear hL
      refine RL.fieldAddr rfl fd38_1 rfl ?_
      refine RL.nil ?_
      exact ⟨rfl, ⟨_, rfl, rfl⟩, .inr (.inl ⟨e11, e12, e14, trivial, bb55, ⟨rfl, trivial⟩, List.Perm.refl _⟩)⟩
     ·exact hS.hi 12 rfl (by kernel_rfl) e12
     ·exact hS.hi 12 rfl (by kernel_rfl) e12
    ·intro ρ L D hS
     rcases hS.sp with ⟨e11, e12, e14, -, hρ, hL⟩ | ⟨e11, e12, e14, -, bb55, hρ, hL⟩ | ⟨e11, e12, e14, -, bb55, A56, cp56, Lr56, hp0, hρ, hL⟩ | ⟨e11, e12, e14, -, bb55, A56, cp56, Lr56, hp0, hρ, hL⟩
     ·have u44 : ρ 44 = .pointer (some ⟨b7, 0 + 16, none⟩) := hS.dep ⟨0, Ground.data⟩ (by simp) rfl _ _ rfl rfl
      clear hS hρ
      obtain ⟨base, rfl⟩ := Has.base (ρ := ρ) (l := [(44, .pointer (some ⟨b7, 0 + 16, none⟩))]) ⟨u44, trivial⟩
      clear u44
      refine RL.perm (L' := ((Lf) ++ (([(b7, cel 38 (clCells (rId r P) (.slice Af h cf) (0) (.slice none 0 0)))]) ++ ((Lm) ++ ((Ls) ++ (([(b4, cel 24 [.slice Am ((rCls r g).1).length cm])]) ++ ([(b2, cel 24 [.slice none 0 0])]))))))) rfl hL.symm ?_
      clear hL
      refine RL.loadO rfl sc35 rfl (clCells_f hid) ?_
      refine RL.nil ?_
      exact ⟨rfl, ⟨_, rfl, rfl⟩, .inl ⟨e11, e12, e14, trivial, trivial, List.Perm.refl _⟩⟩
     ·have u44 : ρ 44 = .pointer (some ⟨b7, 0 + 16, none⟩) := hS.dep ⟨0, Ground.data⟩ (by simp) rfl _ _ rfl rfl
      have u55 : ρ 55 = .slice (some ⟨bb55, 0, none⟩) 1 1 := hρ.1
      clear hS hρ
      obtain ⟨base, rfl⟩ := Has.base (ρ := ρ) (l := [(44, .pointer (some ⟨b7, 0 + 16, none⟩)), (55, .slice (some ⟨bb55, 0, none⟩) 1 1)]) ⟨u44, u55, trivial⟩
      clear u44 u55
      refine RL.perm (L' := ((Lf) ++ (([(b7, cel 38 (clCells (rId r P) (.slice Af h cf) (0) (.slice none 0 0)))]) ++ ((Lm) ++ ((Ls) ++ (([(b4, cel 24 [.slice Am ((rCls r g).1).length cm])]) ++ (([(b2, cel 24 [.slice none 0 0])]) ++ ([(bb55, cel 72 (rFace r (P + 17 + 17 * h)).cells)])))))))) rfl hL.symm ?_
      clear hL
      refine RL.loadO rfl sc35 rfl (clCells_f hid) ?_
      refine RL.nil ?_
      exact ⟨rfl, ⟨_, rfl, rfl⟩, .inr (.inl ⟨e11, e12, e14, trivial, bb55, ⟨rfl, trivial⟩, List.Perm.refl _⟩)⟩
     ·exact hS.hi 12 rfl (by kernel_rfl) e12
     ·exact hS.hi 12 rfl (by kernel_rfl) e12
    ·intro ρ L D hS
     rcases hS.sp with ⟨e11, e12, e14, -, hρ, hL⟩ | ⟨e11, e12, e14, -, bb55, hρ, hL⟩ | ⟨e11, e12, e14, -, bb55, A56, cp56, Lr56, hp0, hρ, hL⟩ | ⟨e11, e12, e14, -, bb55, A56, cp56, Lr56, hp0, hρ, hL⟩
     ·have u0 : ρ 0 = .slice A r.length cp := hS.fix 0 (by decide)
      clear hS hρ
      obtain ⟨base, rfl⟩ := Has.base (ρ := ρ) (l := [(0, .slice A r.length cp)]) ⟨u0, trivial⟩
      clear u0
      refine RL.perm (L' := ((Lf) ++ (([(b7, cel 38 (clCells (rId r P) (.slice Af h cf) (0) (.slice none 0 0)))]) ++ ((Lm) ++ ((Ls) ++ (([(b4, cel 24 [.slice Am ((rCls r g).1).length cm])]) ++ ([(b2, cel 24 [.slice none 0 0])]))))))) rfl hL.symm ?_
      clear hL
      refine RL.move rfl ?_
      refine RL.nil ?_
      exact ⟨rfl, ⟨_, rfl, rfl⟩, .inl ⟨e11, e12, e14, trivial, trivial, List.Perm.refl _⟩⟩
     ·exact hS.hi 11 rfl (by kernel_rfl) e11
     ·exact hS.hi 11 rfl (by kernel_rfl) e11
     ·exact hS.hi 11 rfl (by kernel_rfl) e11
    ·intro ρ L D hS
     rcases hS.sp with ⟨e11, e12, e14, -, hρ, hL⟩ | ⟨e11, e12, e14, -, bb55, hρ, hL⟩ | ⟨e11, e12, e14, -, bb55, A56, cp56, Lr56, hp0, hρ, hL⟩ | ⟨e11, e12, e14, -, bb55, A56, cp56, Lr56, hp0, hρ, hL⟩
     ·have u5 : ρ 5 = .int .i64 ((P + 17 + 17 * h : Nat) : Int) := hS.fix 5 (by decide)
      clear hS hρ
      obtain ⟨base, rfl⟩ := Has.base (ρ := ρ) (l := [(5, .int .i64 ((P + 17 + 17 * h : Nat) : Int))]) ⟨u5, trivial⟩
      clear u5
      refine RL.perm (L' := ((Lf) ++ (([(b7, cel 38 (clCells (rId r P) (.slice Af h cf) (0) (.slice none 0 0)))]) ++ ((Lm) ++ ((Ls) ++ (([(b4, cel 24 [.slice Am ((rCls r g).1).length cm])]) ++ ([(b2, cel 24 [.slice none 0 0])]))))))) rfl hL.symm ?_
      clear hL
      refine RL.move rfl ?_
      refine RL.nil ?_
      exact ⟨rfl, ⟨_, rfl, rfl⟩, .inl ⟨e11, e12, e14, trivial, trivial, List.Perm.refl _⟩⟩
     ·exact hS.hi 11 rfl (by kernel_rfl) e11
     ·exact hS.hi 11 rfl (by kernel_rfl) e11
     ·exact hS.hi 11 rfl (by kernel_rfl) e11
    ·intro ρ L D hS
     rcases hS.sp with ⟨e11, e12, e14, -, hρ, hL⟩ | ⟨e11, e12, e14, -, bb55, hρ, hL⟩ | ⟨e11, e12, e14, -, bb55, A56, cp56, Lr56, hp0, hρ, hL⟩ | ⟨e11, e12, e14, -, bb55, A56, cp56, Lr56, hp0, hρ, hL⟩
     ·have u46 : ρ 46 = .slice A r.length cp := hS.dep ⟨2, Ground.data⟩ (by simp) rfl _ _ rfl rfl
      have u47 : ρ 47 = .int .i64 ((P + 17 + 17 * h : Nat) : Int) := hS.dep ⟨3, Ground.data⟩ (by simp) rfl _ _ rfl rfl
      clear hS hρ
      obtain ⟨base, rfl⟩ := Has.base (ρ := ρ) (l := [(46, .slice A r.length cp), (47, .int .i64 ((P + 17 + 17 * h : Nat) : Int))]) ⟨u46, u47, trivial⟩
      clear u46 u47
      refine RL.perm (L' := ((Lf) ++ (([(b7, cel 38 (clCells (rId r P) (.slice Af h cf) (0) (.slice none 0 0)))]) ++ ((Lm) ++ ((Ls) ++ (([(b4, cel 24 [.slice Am ((rCls r g).1).length cm])]) ++ ([(b2, cel 24 [.slice none 0 0])]))))))) rfl hL.symm ?_
      clear hL
      refine RL.fnQ (v := .agg (gcells (rId r (P + 17 + 17 * h))).toArray) rfl rfl en37 (fun w1 hw1 => f_guid r hlen hbyt A cp w1 (hrd.stN hw1 (fun b o he => by simp)) (P + 17 + 17 * h) (by omega)) rfl ?_
      refine RL.nil ?_
      exact ⟨rfl, ⟨_, rfl, rfl⟩, .inl ⟨e11, e12, e14, trivial, trivial, List.Perm.refl _⟩⟩
     ·exact hS.hi 11 rfl (by kernel_rfl) e11
     ·exact hS.hi 11 rfl (by kernel_rfl) e11
     ·exact hS.hi 11 rfl (by kernel_rfl) e11
    ·intro ρ L D hS
     rcases hS.sp with ⟨e11, e12, e14, -, hρ, hL⟩ | ⟨e11, e12, e14, -, bb55, hρ, hL⟩ | ⟨e11, e12, e14, -, bb55, A56, cp56, Lr56, hp0, hρ, hL⟩ | ⟨e11, e12, e14, -, bb55, A56, cp56, Lr56, hp0, hρ, hL⟩
     ·have u0 : ρ 0 = .slice A r.length cp := hS.fix 0 (by decide)
      clear hS hρ
      obtain ⟨base, rfl⟩ := Has.base (ρ := ρ) (l := [(0, .slice A r.length cp)]) ⟨u0, trivial⟩
      clear u0
      refine RL.perm (L' := ((Lf) ++ (([(b7, cel 38 (clCells (rId r P) (.slice Af h cf) (0) (.slice none 0 0)))]) ++ ((Lm) ++ ((Ls) ++ (([(b4, cel 24 [.slice Am ((rCls r g).1).length cm])]) ++ ([(b2, cel 24 [.slice none 0 0])]))))))) rfl hL.symm ?_
      clear hL
      refine RL.move rfl ?_
      refine RL.nil ?_
      exact ⟨rfl, ⟨_, rfl, rfl⟩, .inl ⟨e11, e12, e14, trivial, trivial, List.Perm.refl _⟩⟩
     ·exact hS.hi 11 rfl (by kernel_rfl) e11
     ·exact hS.hi 11 rfl (by kernel_rfl) e11
     ·exact hS.hi 11 rfl (by kernel_rfl) e11
    ·intro ρ L D hS
     rcases hS.sp with ⟨e11, e12, e14, -, hρ, hL⟩ | ⟨e11, e12, e14, -, bb55, hρ, hL⟩ | ⟨e11, e12, e14, -, bb55, A56, cp56, Lr56, hp0, hρ, hL⟩ | ⟨e11, e12, e14, -, bb55, A56, cp56, Lr56, hp0, hρ, hL⟩
     ·have u5 : ρ 5 = .int .i64 ((P + 17 + 17 * h : Nat) : Int) := hS.fix 5 (by decide)
      clear hS hρ
      obtain ⟨base, rfl⟩ := Has.base (ρ := ρ) (l := [(5, .int .i64 ((P + 17 + 17 * h : Nat) : Int))]) ⟨u5, trivial⟩
      clear u5
      refine RL.perm (L' := ((Lf) ++ (([(b7, cel 38 (clCells (rId r P) (.slice Af h cf) (0) (.slice none 0 0)))]) ++ ((Lm) ++ ((Ls) ++ (([(b4, cel 24 [.slice Am ((rCls r g).1).length cm])]) ++ ([(b2, cel 24 [.slice none 0 0])]))))))) rfl hL.symm ?_
      clear hL
      refine RL.move rfl ?_
      refine RL.nil ?_
      exact ⟨rfl, ⟨_, rfl, rfl⟩, .inl ⟨e11, e12, e14, trivial, trivial, List.Perm.refl _⟩⟩
     ·exact hS.hi 11 rfl (by kernel_rfl) e11
     ·exact hS.hi 11 rfl (by kernel_rfl) e11
     ·exact hS.hi 11 rfl (by kernel_rfl) e11
    ·intro ρ L D hS
     rcases hS.sp with ⟨e11, e12, e14, -, hρ, hL⟩ | ⟨e11, e12, e14, -, bb55, hρ, hL⟩ | ⟨e11, e12, e14, -, bb55, A56, cp56, Lr56, hp0, hρ, hL⟩ | ⟨e11, e12, e14, -, bb55, A56, cp56, Lr56, hp0, hρ, hL⟩
     ·have u50 : ρ 50 = .int .i64 ((P + 17 + 17 * h : Nat) : Int) := hS.dep ⟨6, Ground.data⟩ (by simp) rfl _ _ rfl rfl
      clear hS hρ
      obtain ⟨base, rfl⟩ := Has.base (ρ := ρ) (l := [(50, .int .i64 ((P + 17 + 17 * h : Nat) : Int))]) ⟨u50, trivial⟩
      clear u50
      refine RL.perm (L' := ((Lf) ++ (([(b7, cel 38 (clCells (rId r P) (.slice Af h cf) (0) (.slice none 0 0)))]) ++ ((Lm) ++ ((Ls) ++ (([(b4, cel 24 [.slice Am ((rCls r g).1).length cm])]) ++ ([(b2, cel 24 [.slice none 0 0])]))))))) rfl hL.symm ?_
      clear hL
      refine RL.add rfl rfl rfl (by omega) ?_
      refine RL.nil ?_
      exact ⟨rfl, ⟨_, rfl, rfl⟩, .inl ⟨e11, e12, e14, trivial, trivial, List.Perm.refl _⟩⟩
     ·exact hS.hi 11 rfl (by kernel_rfl) e11
     ·exact hS.hi 11 rfl (by kernel_rfl) e11
     ·exact hS.hi 11 rfl (by kernel_rfl) e11
    ·intro ρ L D hS
     rcases hS.sp with ⟨e11, e12, e14, -, hρ, hL⟩ | ⟨e11, e12, e14, -, bb55, hρ, hL⟩ | ⟨e11, e12, e14, -, bb55, A56, cp56, Lr56, hp0, hρ, hL⟩ | ⟨e11, e12, e14, -, bb55, A56, cp56, Lr56, hp0, hρ, hL⟩
     ·have u49 : ρ 49 = .slice A r.length cp := hS.dep ⟨5, Ground.data⟩ (by simp) rfl _ _ rfl rfl
      have u51 : ρ 51 = .int .i64 ((((P + 17 + 17 * h : Nat) : Int)) + (16)) := hS.dep ⟨7, Ground.data⟩ (by simp) rfl _ _ rfl rfl
      clear hS hρ
      obtain ⟨base, rfl⟩ := Has.base (ρ := ρ) (l := [(49, .slice A r.length cp), (51, .int .i64 ((((P + 17 + 17 * h : Nat) : Int)) + (16)))]) ⟨u49, u51, trivial⟩
      clear u49 u51
      refine RL.perm (L' := ((Lf) ++ (([(b7, cel 38 (clCells (rId r P) (.slice Af h cf) (0) (.slice none 0 0)))]) ++ ((Lm) ++ ((Ls) ++ (([(b4, cel 24 [.slice Am ((rCls r g).1).length cm])]) ++ ([(b2, cel 24 [.slice none 0 0])]))))))) rfl hL.symm ?_
      clear hL
      refine RL.fnQ (v := .int .i64 (r.getD (P + 17 + 17 * h + 16) 0)) rfl rfl en36 (fun w1 hw1 => f_at r hlen hbyt A cp w1 (hrd.stN hw1 (fun b o he => by simp)) (P + 17 + 17 * h + 16)) rfl ?_
      refine RL.nil ?_
      exact ⟨rfl, ⟨_, rfl, rfl⟩, .inl ⟨e11, e12, e14, trivial, trivial, List.Perm.refl _⟩⟩
     ·exact hS.hi 11 rfl (by kernel_rfl) e11
     ·exact hS.hi 11 rfl (by kernel_rfl) e11
     ·exact hS.hi 11 rfl (by kernel_rfl) e11
    ·intro ρ L D hS
     rcases hS.sp with ⟨e11, e12, e14, -, hρ, hL⟩ | ⟨e11, e12, e14, -, bb55, hρ, hL⟩ | ⟨e11, e12, e14, -, bb55, A56, cp56, Lr56, hp0, hρ, hL⟩ | ⟨e11, e12, e14, -, bb55, A56, cp56, Lr56, hp0, hρ, hL⟩
     ·have u52 : ρ 52 = .int .i64 (r.getD (P + 17 + 17 * h + 16) 0) := hS.dep ⟨8, Ground.data⟩ (by simp) rfl _ _ rfl rfl
      clear hS hρ
      obtain ⟨base, rfl⟩ := Has.base (ρ := ρ) (l := [(52, .int .i64 (r.getD (P + 17 + 17 * h + 16) 0))]) ⟨u52, trivial⟩
      clear u52
      refine RL.perm (L' := ((Lf) ++ (([(b7, cel 38 (clCells (rId r P) (.slice Af h cf) (0) (.slice none 0 0)))]) ++ ((Lm) ++ ((Ls) ++ (([(b4, cel 24 [.slice Am ((rCls r g).1).length cm])]) ++ ([(b2, cel 24 [.slice none 0 0])]))))))) rfl hL.symm ?_
      clear hL
      refine RL.sub rfl rfl rfl (by omega) ?_
      refine RL.nil ?_
      exact ⟨rfl, ⟨_, rfl, rfl⟩, .inl ⟨e11, e12, e14, trivial, trivial, List.Perm.refl _⟩⟩
     ·exact hS.hi 11 rfl (by kernel_rfl) e11
     ·exact hS.hi 11 rfl (by kernel_rfl) e11
     ·exact hS.hi 11 rfl (by kernel_rfl) e11
    ·intro ρ L D hS
     rcases hS.sp with ⟨e11, e12, e14, -, hρ, hL⟩ | ⟨e11, e12, e14, -, bb55, hρ, hL⟩ | ⟨e11, e12, e14, -, bb55, A56, cp56, Lr56, hp0, hρ, hL⟩ | ⟨e11, e12, e14, -, bb55, A56, cp56, Lr56, hp0, hρ, hL⟩
     ·have u48 : ρ 48 = .agg (gcells (rId r (P + 17 + 17 * h))).toArray := hS.dep ⟨4, Ground.data⟩ (by simp) rfl _ _ rfl rfl
      have u53 : ρ 53 = .int .i64 (((r.getD (P + 17 + 17 * h + 16) 0)) - (1)) := hS.dep ⟨9, Ground.data⟩ (by simp) rfl _ _ rfl rfl
      clear hS hρ
      obtain ⟨base, rfl⟩ := Has.base (ρ := ρ) (l := [(48, .agg (gcells (rId r (P + 17 + 17 * h))).toArray), (53, .int .i64 (((r.getD (P + 17 + 17 * h + 16) 0)) - (1)))]) ⟨u48, u53, trivial⟩
      clear u48 u53
      refine RL.perm (L' := ((Lf) ++ (([(b7, cel 38 (clCells (rId r P) (.slice Af h cf) (0) (.slice none 0 0)))]) ++ ((Lm) ++ ((Ls) ++ (([(b4, cel 24 [.slice Am ((rCls r g).1).length cm])]) ++ ([(b2, cel 24 [.slice none 0 0])]))))))) rfl hL.symm ?_
      clear hL
      refine RL.bldC (vs := [(0, .agg (gcells (rId r (P + 17 + 17 * h))).toArray), (1, .int .i64 (r.getD (P + 17 + 17 * h + 16) 0 - 1))]) rfl rfl (build_face (rId_len r (P + 17 + 17 * h)) _) ?_
      refine RL.nil ?_
      exact ⟨rfl, ⟨_, rfl, rfl⟩, .inl ⟨e11, e12, e14, trivial, trivial, List.Perm.refl _⟩⟩
     ·exact hS.hi 11 rfl (by kernel_rfl) e11
     ·exact hS.hi 11 rfl (by kernel_rfl) e11
     ·exact hS.hi 11 rfl (by kernel_rfl) e11
    ·intro ρ L D hS
     rcases hS.sp with ⟨e11, e12, e14, -, hρ, hL⟩ | ⟨e11, e12, e14, -, bb55, hρ, hL⟩ | ⟨e11, e12, e14, -, bb55, A56, cp56, Lr56, hp0, hρ, hL⟩ | ⟨e11, e12, e14, -, bb55, A56, cp56, Lr56, hp0, hρ, hL⟩
     ·have u54 : ρ 54 = .agg (rFace r (P + 17 + 17 * h)).cells.toArray := hS.dep ⟨10, Ground.data⟩ (by simp) rfl _ _ rfl rfl
      clear hS hρ
      obtain ⟨base, rfl⟩ := Has.base (ρ := ρ) (l := [(54, .agg (rFace r (P + 17 + 17 * h)).cells.toArray)]) ⟨u54, trivial⟩
      clear u54
      refine RL.perm (L' := ((Lf) ++ (([(b7, cel 38 (clCells (rId r P) (.slice Af h cf) (0) (.slice none 0 0)))]) ++ ((Lm) ++ ((Ls) ++ (([(b4, cel 24 [.slice Am ((rCls r g).1).length cm])]) ++ ([(b2, cel 24 [.slice none 0 0])]))))))) rfl hL.symm ?_
      clear hL
      refine RL.bs1A rfl rfl sl35 zt72 rfl (Face.len (rId_len r (P + 17 + 17 * h))) (by decide) ?_
      intro bb55 hbb55
      refine RL.nil ?_
      exact ⟨rfl, ⟨_, rfl, trivial⟩, .inr (.inl ⟨rfl, e12, e14, trivial, bb55, ⟨rfl, trivial⟩, (by classical exact List.perm_iff_count.2 (fun z => by simp only [List.count_append, List.count_cons, List.count_nil, List.cons_append, List.nil_append, List.append_nil, List.set_cons_zero, List.set_cons_succ] <;> omega))⟩)⟩
     ·exact hS.me e11
     ·exact hS.hi 12 rfl (by kernel_rfl) e12
     ·exact hS.hi 12 rfl (by kernel_rfl) e12
    ·intro ρ L D hS
     rcases hS.sp with ⟨e11, e12, e14, -, hρ, hL⟩ | ⟨e11, e12, e14, -, bb55, hρ, hL⟩ | ⟨e11, e12, e14, -, bb55, A56, cp56, Lr56, hp0, hρ, hL⟩ | ⟨e11, e12, e14, -, bb55, A56, cp56, Lr56, hp0, hρ, hL⟩
     ·exact hS.lo 11 (by kernel_rfl) e11
     ·have u45 : ρ 45 = .slice Af h cf := hS.dep ⟨1, Ground.data⟩ (by simp) rfl _ _ rfl rfl
      have u55 : ρ 55 = .slice (some ⟨bb55, 0, none⟩) 1 1 := hρ.1
      clear hS hρ
      obtain ⟨base, rfl⟩ := Has.base (ρ := ρ) (l := [(45, .slice Af h cf), (55, .slice (some ⟨bb55, 0, none⟩) 1 1)]) ⟨u45, u55, trivial⟩
      clear u45 u55
      refine RL.perm (L' := ((Lf) ++ (([(b7, cel 38 (clCells (rId r P) (.slice Af h cf) (0) (.slice none 0 0)))]) ++ ((Lm) ++ ((Ls) ++ (([(b4, cel 24 [.slice Am ((rCls r g).1).length cm])]) ++ (([(b2, cel 24 [.slice none 0 0])]) ++ ([(bb55, cel 72 (rFace r (P + 17 + 17 * h)).cells)])))))))) rfl hL.symm ?_
      clear hL
      refine RL.appB (Lr := Lf) (xs := fcells (rFaces r (P + 17) h)) (ys := (rFace r (P + 17 + 17 * h)).cells) (N := h + 1) rfl rfl sl35 el_face (by decide) (by decide) Try.underlying35 rfl hrf rfl (List.Perm.refl _) (by simp) (Face.len (rId_len r (P + 17 + 17 * h))) (face_one _) (by omega) (by simp) ?_
      intro A56 cp56 Lr56 hr56
      rw [← fcells_snoc, ← rFaces_succ] at hr56
      refine RL.nil ?_
      exact ⟨rfl, ⟨_, rfl, trivial⟩, .inr (.inr (.inl ⟨e11, rfl, e14, trivial, bb55, A56, cp56, Lr56, hr56, ⟨rfl, rfl, trivial⟩, (by classical exact List.perm_iff_count.2 (fun z => by simp only [List.count_append, List.count_cons, List.count_nil, List.cons_append, List.nil_append, List.append_nil, List.set_cons_zero, List.set_cons_succ] <;> omega))⟩))⟩
     ·exact hS.me e12
     ·exact hS.hi 14 rfl (by kernel_rfl) e14
    ·intro ρ L D hS
     rcases hS.sp with ⟨e11, e12, e14, -, hρ, hL⟩ | ⟨e11, e12, e14, -, bb55, hρ, hL⟩ | ⟨e11, e12, e14, -, bb55, A56, cp56, Lr56, hp0, hρ, hL⟩ | ⟨e11, e12, e14, -, bb55, A56, cp56, Lr56, hp0, hρ, hL⟩
     ·exact hS.lo 11 (by kernel_rfl) e11
     ·exact hS.lo 12 (by kernel_rfl) e12
     ·have u7 : ρ 7 = .pointer (some ⟨b7, 0, none⟩) := hS.fix 7 (by decide)
      have u55 : ρ 55 = .slice (some ⟨bb55, 0, none⟩) 1 1 := hρ.1
      have u56 : ρ 56 = .slice A56 (h + 1) cp56 := hρ.2.1
      clear hS hρ
      obtain ⟨base, rfl⟩ := Has.base (ρ := ρ) (l := [(7, .pointer (some ⟨b7, 0, none⟩)), (55, .slice (some ⟨bb55, 0, none⟩) 1 1), (56, .slice A56 (h + 1) cp56)]) ⟨u7, u55, u56, trivial⟩
      clear u7 u55 u56
      refine RL.perm (L' := ((Lr56) ++ (([(b7, cel 38 (clCells (rId r P) (.slice Af h cf) (0) (.slice none 0 0)))]) ++ ((Lm) ++ ((Ls) ++ (([(b4, cel 24 [.slice Am ((rCls r g).1).length cm])]) ++ (([(b2, cel 24 [.slice none 0 0])]) ++ ([(bb55, cel 72 (rFace r (P + 17 + 17 * h)).cells)])))))))) rfl hL.symm ?_
      clear hL
      refine RL.fieldAddr rfl fd38_1 rfl ?_
      refine RL.nil ?_
      exact ⟨rfl, ⟨_, rfl, rfl⟩, .inr (.inr (.inl ⟨e11, e12, e14, trivial, bb55, A56, cp56, Lr56, hp0, ⟨rfl, rfl, trivial⟩, List.Perm.refl _⟩))⟩
     ·exact hS.hi 14 rfl (by kernel_rfl) e14
    ·intro ρ L D hS
     rcases hS.sp with ⟨e11, e12, e14, -, hρ, hL⟩ | ⟨e11, e12, e14, -, bb55, hρ, hL⟩ | ⟨e11, e12, e14, -, bb55, A56, cp56, Lr56, hp0, hρ, hL⟩ | ⟨e11, e12, e14, -, bb55, A56, cp56, Lr56, hp0, hρ, hL⟩
     ·exact hS.lo 11 (by kernel_rfl) e11
     ·exact hS.lo 12 (by kernel_rfl) e12
     ·have u55 : ρ 55 = .slice (some ⟨bb55, 0, none⟩) 1 1 := hρ.1
      have u56 : ρ 56 = .slice A56 (h + 1) cp56 := hρ.2.1
      have u57 : ρ 57 = .pointer (some ⟨b7, 0 + 16, none⟩) := hS.dep ⟨13, Ground.data⟩ (by simp) rfl _ _ rfl rfl
      clear hS hρ
      obtain ⟨base, rfl⟩ := Has.base (ρ := ρ) (l := [(55, .slice (some ⟨bb55, 0, none⟩) 1 1), (56, .slice A56 (h + 1) cp56), (57, .pointer (some ⟨b7, 0 + 16, none⟩))]) ⟨u55, u56, u57, trivial⟩
      clear u55 u56 u57
      refine RL.perm (L' := ((Lr56) ++ (([(b7, cel 38 (clCells (rId r P) (.slice Af h cf) (0) (.slice none 0 0)))]) ++ ((Lm) ++ ((Ls) ++ (([(b4, cel 24 [.slice Am ((rCls r g).1).length cm])]) ++ (([(b2, cel 24 [.slice none 0 0])]) ++ ([(bb55, cel 72 (rFace r (P + 17 + 17 * h)).cells)])))))))) rfl hL.symm ?_
      clear hL
      refine RL.stS rfl rfl sc35.size rfl rfl (by rw [clCells_len hid]; decide) ?_
      rw [clCells_setf hid]
      refine RL.nil ?_
      exact ⟨rfl, ⟨_, rfl, trivial⟩, .inr (.inr (.inr (⟨e11, e12, rfl, trivial, bb55, A56, cp56, Lr56, hp0, ⟨rfl, rfl, trivial⟩, (by classical exact List.perm_iff_count.2 (fun z => by simp only [List.count_append, List.count_cons, List.count_nil, List.cons_append, List.nil_append, List.append_nil, List.set_cons_zero, List.set_cons_succ] <;> omega))⟩)))⟩
     ·exact hS.me e14
    ·intro ρ L D hD hT hfix hsp
     rcases hsp with ⟨e11, e12, e14, -, hρ, hL⟩ | ⟨e11, e12, e14, -, bb55, hρ, hL⟩ | ⟨e11, e12, e14, -, bb55, A56, cp56, Lr56, hp0, hρ, hL⟩ | ⟨e11, e12, e14, -, bb55, A56, cp56, Lr56, hp0, hρ, hL⟩
     ·exact done_no hD 11 rfl e11
     ·exact done_no hD 12 rfl e12
     ·exact done_no hD 14 rfl e14
     ·have u0 : ρ 0 = .slice A r.length cp := hfix 0 (by decide)
      have u2 : ρ 2 = .pointer (some ⟨b2, 0, none⟩) := hfix 2 (by decide)
      have u4 : ρ 4 = .pointer (some ⟨b4, 0, none⟩) := hfix 4 (by decide)
      have u5 : ρ 5 = .int .i64 ((P + 17 + 17 * h : Nat) : Int) := hfix 5 (by decide)
      have u6 : ρ 6 = .int .i64 g := hfix 6 (by decide)
      have u7 : ρ 7 = .pointer (some ⟨b7, 0, none⟩) := hfix 7 (by decide)
      have u8 : ρ 8 = .int .i64 (r.getD (P + 16) 0) := hfix 8 (by decide)
      have u9 : ρ 9 = .int .i64 h := hfix 9 (by decide)
      have u55 : ρ 55 = .slice (some ⟨bb55, 0, none⟩) 1 1 := hρ.1
      have u56 : ρ 56 = .slice A56 (h + 1) cp56 := hρ.2.1
      clear hT hfix hD hρ
      obtain ⟨base, rfl⟩ := Has.base (ρ := ρ) (l := [(0, .slice A r.length cp), (2, .pointer (some ⟨b2, 0, none⟩)), (4, .pointer (some ⟨b4, 0, none⟩)), (5, .int .i64 ((P + 17 + 17 * h : Nat) : Int)), (6, .int .i64 g), (7, .pointer (some ⟨b7, 0, none⟩)), (8, .int .i64 (r.getD (P + 16) 0)), (9, .int .i64 h), (55, .slice (some ⟨bb55, 0, none⟩) 1 1), (56, .slice A56 (h + 1) cp56)]) ⟨u0, u2, u4, u5, u6, u7, u8, u9, u55, u56, trivial⟩
      clear u0 u2 u4 u5 u6 u7 u8 u9 u55 u56
      refine ⟨_, hL.symm, ((Lr56) ++ (([(b7, cel 38 (clCells (rId r P) (.slice A56 (h + 1) cp56) (0) (.slice none 0 0)))]) ++ ((Lm) ++ ((Ls) ++ (([(b4, cel 24 [.slice Am ((rCls r g).1).length cm])]) ++ ([(b2, cel 24 [.slice none 0 0])])))))), List.Sublist.append (List.Sublist.refl _) (List.Sublist.append (List.Sublist.refl _) (List.Sublist.append (List.Sublist.refl _) (List.Sublist.append (List.Sublist.refl _) (List.Sublist.append (List.Sublist.refl _) (List.sublist_append_left _ _))))), ?_⟩
      refine X.region rfl ?_
      refine RL.move rfl ?_
      refine RL.add rfl rfl rfl (by omega) ?_
      refine RL.assign rfl ?_
      refine RL.nil ?_
      refine X.blk ?_
      refine X.region rfl ?_
      refine RL.move rfl ?_
      refine RL.add rfl rfl rfl (by omega) ?_
      refine RL.assign rfl ?_
      refine RL.nil ?_
      refine X.hyp ⟨rfl, h + 1, by omega, _, (List.Sublist.refl _), A56, cp56, Lr56, by omega, hp0, ⟨rfl, rfl, rfl, (congrArg (Value.int .i64) (by omega)), rfl, rfl, rfl, rfl, trivial⟩, rfl⟩
   ·replace hl2 : ¬ ((_ : Int) < _) := hl2
    have hhe : h = (r.getD (P + 16) 0).toNat := by omega
    subst hhe
    have hq1 := hbyt.at (P + 17 + 17 * (r.getD (P + 16) 0).toNat + 1)
    have hQB : P + 17 + 17 * (r.getD (P + 16) 0).toNat ≤ P + 17 + 4335 := by omega
    refine RL.nil ?_
    refine X.cond_f rfl ?_
    refine X.exit rfl ?_
    refine X.seq ?_
    refine X.region rfl ?_
    refine RL.move rfl ?_
    refine RL.move rfl ?_
    refine RL.fnQ (v := .int .i64 (r.getD (P + 17 + 17 * (r.getD (P + 16) 0).toNat) 0)) rfl rfl en36 (fun w1 hw1 => f_at r hlen hbyt A cp w1 (hrd.stN hw1 (fun b o he => by simp)) (P + 17 + 17 * (r.getD (P + 16) 0).toNat)) rfl ?_
    refine RL.fieldAddr rfl fd38_2 rfl ?_
    refine RL.stI rfl rfl sc3.size rfl rfl (by rw [clCells_len hid]; decide) ?_
    rw [clCells_sets hid]
    refine RL.nil ?_
    refine X.seq ?_
    refine X.region rfl ?_
    refine RL.move rfl ?_
    refine RL.move rfl ?_
    refine RL.add rfl rfl rfl (by omega) ?_
    refine RL.fnQ (v := .int .i64 (r.getD (P + 17 + 17 * (r.getD (P + 16) 0).toNat + 1) 0)) rfl rfl en36 (fun w1 hw1 => f_at r hlen hbyt A cp w1 (hrd.stN hw1 (fun b o he => by simp)) (P + 17 + 17 * (r.getD (P + 16) 0).toNat + 1)) rfl ?_
    refine RL.assign rfl ?_
    refine RL.nil ?_
    refine X.seq ?_
    refine X.region rfl ?_
    refine RL.move rfl ?_
    refine RL.add rfl rfl rfl (by omega) ?_
    refine RL.assign rfl ?_
    refine RL.nil ?_
    refine X.seq ?_
    refine X.seq ?_
    refine X.region rfl ?_
    refine RL.assign rfl ?_
    refine RL.nil ?_
    refine X.block ?_
    refine X.loop (γ := Nat) (fun j ρ L => ∃ P2 : Nat, ∃ Am2 : Option Addr, ∃ cm2 : Nat, ∃ ms : List Value, ∃ Lmm : List Ent, ∃ Lms : List Ent, (j ≤ (r.getD (P + 17 + 17 * (r.getD (P + 16) 0).toNat + 1) 0).toNat) ∧ ((rMeths r (P + 17 + 17 * (r.getD (P + 16) 0).toNat + 2) j).2 = P2) ∧ (P2 ≤ P + 17 + 17 * (r.getD (P + 16) 0).toNat + 2 + 2000 * j) ∧ (((rMeths r (P + 17 + 17 * (r.getD (P + 16) 0).toNat + 2) j).1).length = j) ∧ (∀ l ∈ (rMeths r (P + 17 + 17 * (r.getD (P + 16) 0).toNat + 2) j).1, l.length ≤ 1000) ∧ (Row 56 1 (.slice Am2 ((rMeths r (P + 17 + 17 * (r.getD (P + 16) 0).toNat + 2) j).1).length cm2) (ms) Lmm) ∧ (MsO (rMeths r (P + 17 + 17 * (r.getD (P + 16) 0).toNat + 2) j).1 ms Lms) ∧ Has ρ [(0, .slice A r.length cp), (2, .pointer (some ⟨b2, 0, none⟩)), (4, .pointer (some ⟨b4, 0, none⟩)), (5, .int .i64 (P2 : Int)), (6, .int .i64 g), (7, .pointer (some ⟨b7, 0, none⟩)), (8, .int .i64 (r.getD (P + 17 + 17 * (r.getD (P + 16) 0).toNat + 1) 0)), (10, .int .i64 j)] ∧ L = Lmm ++ (Lms ++ (Lf ++ ((b7, cel 38 (clCells (rId r P) (.slice Af (r.getD (P + 16) 0).toNat cf) (r.getD (P + 17 + 17 * (r.getD (P + 16) 0).toNat) 0) (.slice Am2 ((rMeths r (P + 17 + 17 * (r.getD (P + 16) 0).toNat + 2) j).1).length cm2))) :: (Lm ++ (Ls ++ [(b4, cel 24 [.slice Am ((rCls r g).1).length cm]), (b2, cel 24 [.slice none 0 0])])))))) (fun j => (r.getD (P + 17 + 17 * (r.getD (P + 16) 0).toNat + 1) 0).toNat - j) (0) ⟨_, (by repeat (first | exact List.Sublist.refl _ | exact List.nil_sublist _ | (rw [List.append_nil]; exact List.Sublist.refl _) | exact List.sublist_append_left _ _ | exact (List.sublist_append_left _ _).trans (List.sublist_append_left _ _) | apply List.Sublist.cons_cons | apply List.Sublist.cons | refine List.Sublist.trans ?_ (List.sublist_append_right _ _))), P + 17 + 17 * (r.getD (P + 16) 0).toNat + 2, none, 0, [], [], [], Nat.zero_le _, rfl, by omega, rfl, (fun l hl => by cases hl), Row.nil, MsO.nil, ⟨rfl, rfl, rfl, rfl, rfl, rfl, rfl, rfl, trivial⟩, rfl⟩ ?_
    rintro j _ _ ⟨P2, Am2, cm2, ms, Lmm, Lms, hj, hP2, hP2b, hjl, hlz, hrm2, hmo2, hρ, rfl⟩
    obtain ⟨base, rfl⟩ := hρ.base
    clear hρ
    refine X.seq ?_
    refine X.seq ?_
    refine X.region rfl ?_
    refine RL.move rfl ?_
    refine RL.move rfl ?_
    refine RL.cmp_s rfl rfl rfl rfl (fun hl3 => ?_) (fun hl3 => ?_)
    ·replace hl3 : (_ : Int) < _ := hl3
     have hjB : j ≤ 255 := by omega
     have hbi := hbyt.at P2
     have hP2B : P2 ≤ 300000000 := by omega
     refine RL.nil ?_
     refine X.cond_t rfl ?_
     refine X.skip ?_
     refine X.seq ?_
     refine X.block ?_
     refine X.seq ?_
     refine X.region rfl ?_
     refine RL.assign rfl ?_
     refine RL.nil ?_
     refine X.seq ?_
     refine X.region rfl ?_
     refine RL.move rfl ?_
     refine RL.move rfl ?_
     refine RL.fnQ (v := .int .i64 (r.getD (P2) 0)) rfl rfl en36 (fun w1 hw1 => f_at r hlen hbyt A cp w1 (hrd.stN hw1 (fun b o he => by simp)) (P2)) rfl ?_
     refine RL.assign rfl ?_
     refine RL.nil ?_
     refine X.seq ?_
     refine X.region rfl ?_
     refine RL.move rfl ?_
     refine RL.add rfl rfl rfl (by omega) ?_
     refine RL.assign rfl ?_
     refine RL.nil ?_
     refine X.seq ?_
     refine X.seq ?_
     refine X.region rfl ?_
     refine RL.assign rfl ?_
     refine RL.nil ?_
     refine X.block ?_
     refine X.loop (γ := Nat) (fun i ρ L => ∃ Al : Option Addr, ∃ cl2 : Nat, ∃ Ll : List Ent, (i ≤ (r.getD P2 0).toNat) ∧ (Row 61 3 (.slice Al (i) cl2) (icells (rMeth r (P2 + 1) (i))) Ll) ∧ Has ρ [(0, .slice A r.length cp), (2, .pointer (some ⟨b2, 0, none⟩)), (4, .pointer (some ⟨b4, 0, none⟩)), (5, .int .i64 ((P2 + 1 + 6 * i : Nat) : Int)), (6, .int .i64 g), (7, .pointer (some ⟨b7, 0, none⟩)), (8, .int .i64 (r.getD (P + 17 + 17 * (r.getD (P + 16) 0).toNat + 1) 0)), (10, .int .i64 j), (11, .slice Al i cl2), (12, .int .i64 (r.getD P2 0)), (13, .int .i64 i)] ∧ L = Ll ++ (Lmm ++ (Lms ++ (Lf ++ ((b7, cel 38 (clCells (rId r P) (.slice Af (r.getD (P + 16) 0).toNat cf) (r.getD (P + 17 + 17 * (r.getD (P + 16) 0).toNat) 0) (.slice Am2 ((rMeths r (P + 17 + 17 * (r.getD (P + 16) 0).toNat + 2) j).1).length cm2))) :: (Lm ++ (Ls ++ [(b4, cel 24 [.slice Am ((rCls r g).1).length cm]), (b2, cel 24 [.slice none 0 0])]))))))) (fun i => (r.getD P2 0).toNat - i) (0) ⟨_, (by repeat (first | exact List.Sublist.refl _ | exact List.nil_sublist _ | (rw [List.append_nil]; exact List.Sublist.refl _) | exact List.sublist_append_left _ _ | exact (List.sublist_append_left _ _).trans (List.sublist_append_left _ _) | apply List.Sublist.cons_cons | apply List.Sublist.cons | refine List.Sublist.trans ?_ (List.sublist_append_right _ _))), none, 0, [], Nat.zero_le _, Row.nil, ⟨rfl, rfl, rfl, rfl, rfl, rfl, rfl, rfl, rfl, rfl, rfl, trivial⟩, rfl⟩ ?_
     rintro i _ _ ⟨Al, cl2, Ll, hi, hrl, hρ, rfl⟩
     obtain ⟨base, rfl⟩ := hρ.base
     clear hρ
     refine X.seq ?_
     refine X.seq ?_
     refine X.region rfl ?_
     refine RL.move rfl ?_
     refine RL.move rfl ?_
     refine RL.cmp_s rfl rfl rfl rfl (fun hl4 => ?_) (fun hl4 => ?_)
     ·replace hl4 : (_ : Int) < _ := hl4
      have hiB : i ≤ 255 := by omega
      have hd2 := hbyt.at (P2 + 1 + 6 * i + 2)
      have hd3 := hbyt.at (P2 + 1 + 6 * i + 3)
      have hd4 := hbyt.at (P2 + 1 + 6 * i + 4)
      have hd5 := hbyt.at (P2 + 1 + 6 * i + 5)
      refine RL.nil ?_
      refine X.cond_t rfl ?_
      refine X.skip ?_
      refine X.seq ?_
      refine X.block ?_
      refine X.seq ?_
      refine X.region rfl ?_
      refine RL.move rfl ?_
      refine RL.move rfl ?_
      refine RL.add rfl rfl rfl (by omega) ?_
      refine RL.fnQ (v := .int .i64 (r.getD (P2 + 1 + 6 * i + 2) 0)) rfl rfl en36 (fun w1 hw1 => f_at r hlen hbyt A cp w1 (hrd.stN hw1 (fun b o he => by simp)) (P2 + 1 + 6 * i + 2)) rfl ?_
      refine RL.move rfl ?_
      refine RL.move rfl ?_
      refine RL.add rfl rfl rfl (by omega) ?_
      refine RL.fnQ (v := .int .i64 (r.getD (P2 + 1 + 6 * i + 3) 0)) rfl rfl en36 (fun w1 hw1 => f_at r hlen hbyt A cp w1 (hrd.stN hw1 (fun b o he => by simp)) (P2 + 1 + 6 * i + 3)) rfl ?_
      refine RL.mul rfl rfl rfl (by omega) ?_
      refine RL.add rfl rfl rfl (by omega) ?_
      refine RL.move rfl ?_
      refine RL.move rfl ?_
      refine RL.add rfl rfl rfl (by omega) ?_
      refine RL.fnQ (v := .int .i64 (r.getD (P2 + 1 + 6 * i + 4) 0)) rfl rfl en36 (fun w1 hw1 => f_at r hlen hbyt A cp w1 (hrd.stN hw1 (fun b o he => by simp)) (P2 + 1 + 6 * i + 4)) rfl ?_
      refine RL.mul rfl rfl rfl (by omega) ?_
      refine RL.add rfl rfl rfl (by omega) ?_
      refine RL.move rfl ?_
      refine RL.move rfl ?_
      refine RL.add rfl rfl rfl (by omega) ?_
      refine RL.fnQ (v := .int .i64 (r.getD (P2 + 1 + 6 * i + 5) 0)) rfl rfl en36 (fun w1 hw1 => f_at r hlen hbyt A cp w1 (hrd.stN hw1 (fun b o he => by simp)) (P2 + 1 + 6 * i + 5)) rfl ?_
      refine RL.mul rfl rfl rfl (by omega) ?_
      refine RL.add rfl rfl rfl (by omega) ?_
      refine RL.assign rfl ?_
      refine RL.nil ?_
      refine X.seq ?_
      refine X.seq ?_
      refine X.region rfl ?_
      refine RL.move rfl ?_
      refine RL.cmp_s rfl rfl rfl rfl (fun hsg => ?_) (fun hsg => ?_)
      ·replace hsg : (_ : Int) > _ := hsg
       have hnn : r.getD (P2 + 1 + 6 * i + 2) 0 + 256 * r.getD (P2 + 1 + 6 * i + 3) 0 + 65536 * r.getD (P2 + 1 + 6 * i + 4) 0 + 16777216 * r.getD (P2 + 1 + 6 * i + 5) 0 = rNum r (P2 + 1 + 6 * i) := rfl
       rw [hnn] at hsg
       have hsn : rSgn (rNum r (P2 + 1 + 6 * i)) = rNum r (P2 + 1 + 6 * i) - 4294967296 := if_pos hsg
       have hxc : (rIns r (P2 + 1 + 6 * i)).cells = [.int .i64 (r.getD (P2 + 1 + 6 * i) 0), .int .i64 (rNum r (P2 + 1 + 6 * i) - 4294967296), .int .i64 (r.getD (P2 + 1 + 6 * i + 1) 0)] := by rw [← hsn]; rfl
       refine RL.nil ?_
       refine X.cond_t rfl ?_
       refine X.region rfl ?_
       refine RL.move rfl ?_
       refine RL.sub rfl rfl rfl (by omega) ?_
       refine RL.assign rfl ?_
       refine RL.nil ?_
       refine X.seq ?_
       refine X.region rfl ?_
       refine RL.move rfl ?_
       refine RL.move rfl ?_
       refine RL.move rfl ?_
       refine RL.fnQ (v := .int .i64 (r.getD (P2 + 1 + 6 * i) 0)) rfl rfl en36 (fun w1 hw1 => f_at r hlen hbyt A cp w1 (hrd.stN hw1 (fun b o he => by simp)) (P2 + 1 + 6 * i)) rfl ?_
       refine RL.move rfl ?_
       refine RL.move rfl ?_
       refine RL.add rfl rfl rfl (by omega) ?_
       refine RL.fnQ (v := .int .i64 (r.getD (P2 + 1 + 6 * i + 1) 0)) rfl rfl en36 (fun w1 hw1 => f_at r hlen hbyt A cp w1 (hrd.stN hw1 (fun b o he => by simp)) (P2 + 1 + 6 * i + 1)) rfl ?_
       refine RL.move rfl ?_
       refine RL.bldC (vs := [(0, .int .i64 (r.getD (P2 + 1 + 6 * i) 0)), (2, .int .i64 (r.getD (P2 + 1 + 6 * i + 1) 0)), (1, .int .i64 (rNum r (P2 + 1 + 6 * i) - 4294967296))]) (cells := [.int .i64 (r.getD (P2 + 1 + 6 * i) 0), .int .i64 (rNum r (P2 + 1 + 6 * i) - 4294967296), .int .i64 (r.getD (P2 + 1 + 6 * i + 1) 0)]) rfl rfl (fun w => by kernel_rfl) ?_
       refine RL.bs1A rfl rfl sl56 zt61 rfl rfl (by decide) ?_
       intro bb9 hbb9
       refine RL.perm (L' := Ll ++ ((bb9, cel 61 [.int .i64 (r.getD (P2 + 1 + 6 * i) 0), .int .i64 (rNum r (P2 + 1 + 6 * i) - 4294967296), .int .i64 (r.getD (P2 + 1 + 6 * i + 1) 0)]) :: (Lmm ++ (Lms ++ (Lf ++ ((b7, cel 38 (clCells (rId r P) (.slice Af (r.getD (P + 16) 0).toNat cf) (r.getD (P + 17 + 17 * (r.getD (P + 16) 0).toNat) 0) (.slice Am2 ((rMeths r (P + 17 + 17 * (r.getD (P + 16) 0).toNat + 2) j).1).length cm2))) :: (Lm ++ (Ls ++ [(b4, cel 24 [.slice Am ((rCls r g).1).length cm]), (b2, cel 24 [.slice none 0 0])])))))))) rfl List.perm_middle ?_
       refine RL.appB (Lr := Ll) (xs := icells (rMeth r (P2 + 1) i)) (ys := [.int .i64 (r.getD (P2 + 1 + 6 * i) 0), .int .i64 (rNum r (P2 + 1 + 6 * i) - 4294967296), .int .i64 (r.getD (P2 + 1 + 6 * i + 1) 0)]) (N := i + 1) rfl rfl sl56 el_ins (by decide) (by decide) Try.underlying56 rfl hrl rfl (List.Perm.refl _) (by simp) rfl (by rw [← hxc]; exact Ins.one _) (by omega) (by simp) ?_
       intro A8 cp8 Lr8 hr8
       rw [← hxc, ← icells_snoc, ← rMeth_succ] at hr8
       refine RL.assign rfl ?_
       refine RL.nil ?_
       refine X.region rfl ?_
       refine RL.move rfl ?_
       refine RL.add rfl rfl rfl (by omega) ?_
       refine RL.assign rfl ?_
       refine RL.nil ?_
       refine X.blk ?_
       refine X.region rfl ?_
       refine RL.move rfl ?_
       refine RL.add rfl rfl rfl (by omega) ?_
       refine RL.assign rfl ?_
       refine RL.nil ?_
       refine X.hyp ⟨rfl, i + 1, by omega, _, (List.Sublist.append (List.Sublist.refl _) (List.sublist_cons_self _ _)), A8, cp8, Lr8, by omega, hr8, ⟨rfl, rfl, rfl, (congrArg (Value.int .i64) (by omega)), rfl, rfl, rfl, rfl, rfl, rfl, rfl, trivial⟩, rfl⟩
      ·replace hsg : ¬ ((_ : Int) > _) := hsg
       have hnn : r.getD (P2 + 1 + 6 * i + 2) 0 + 256 * r.getD (P2 + 1 + 6 * i + 3) 0 + 65536 * r.getD (P2 + 1 + 6 * i + 4) 0 + 16777216 * r.getD (P2 + 1 + 6 * i + 5) 0 = rNum r (P2 + 1 + 6 * i) := rfl
       rw [hnn] at hsg
       have hsn : rSgn (rNum r (P2 + 1 + 6 * i)) = rNum r (P2 + 1 + 6 * i) := if_neg hsg
       have hxc : (rIns r (P2 + 1 + 6 * i)).cells = [.int .i64 (r.getD (P2 + 1 + 6 * i) 0), .int .i64 (rNum r (P2 + 1 + 6 * i)), .int .i64 (r.getD (P2 + 1 + 6 * i + 1) 0)] := by rw [← hsn]; rfl
       refine RL.nil ?_
       refine X.cond_f rfl ?_
       refine X.skip ?_
       refine X.seq ?_
       refine X.region rfl ?_
       refine RL.move rfl ?_
       refine RL.move rfl ?_
       refine RL.move rfl ?_
       refine RL.fnQ (v := .int .i64 (r.getD (P2 + 1 + 6 * i) 0)) rfl rfl en36 (fun w1 hw1 => f_at r hlen hbyt A cp w1 (hrd.stN hw1 (fun b o he => by simp)) (P2 + 1 + 6 * i)) rfl ?_
       refine RL.move rfl ?_
       refine RL.move rfl ?_
       refine RL.add rfl rfl rfl (by omega) ?_
       refine RL.fnQ (v := .int .i64 (r.getD (P2 + 1 + 6 * i + 1) 0)) rfl rfl en36 (fun w1 hw1 => f_at r hlen hbyt A cp w1 (hrd.stN hw1 (fun b o he => by simp)) (P2 + 1 + 6 * i + 1)) rfl ?_
       refine RL.move rfl ?_
       refine RL.bldC (vs := [(0, .int .i64 (r.getD (P2 + 1 + 6 * i) 0)), (2, .int .i64 (r.getD (P2 + 1 + 6 * i + 1) 0)), (1, .int .i64 (rNum r (P2 + 1 + 6 * i)))]) (cells := [.int .i64 (r.getD (P2 + 1 + 6 * i) 0), .int .i64 (rNum r (P2 + 1 + 6 * i)), .int .i64 (r.getD (P2 + 1 + 6 * i + 1) 0)]) rfl rfl (fun w => by kernel_rfl) ?_
       refine RL.bs1A rfl rfl sl56 zt61 rfl rfl (by decide) ?_
       intro bb9 hbb9
       refine RL.perm (L' := Ll ++ ((bb9, cel 61 [.int .i64 (r.getD (P2 + 1 + 6 * i) 0), .int .i64 (rNum r (P2 + 1 + 6 * i)), .int .i64 (r.getD (P2 + 1 + 6 * i + 1) 0)]) :: (Lmm ++ (Lms ++ (Lf ++ ((b7, cel 38 (clCells (rId r P) (.slice Af (r.getD (P + 16) 0).toNat cf) (r.getD (P + 17 + 17 * (r.getD (P + 16) 0).toNat) 0) (.slice Am2 ((rMeths r (P + 17 + 17 * (r.getD (P + 16) 0).toNat + 2) j).1).length cm2))) :: (Lm ++ (Ls ++ [(b4, cel 24 [.slice Am ((rCls r g).1).length cm]), (b2, cel 24 [.slice none 0 0])])))))))) rfl List.perm_middle ?_
       refine RL.appB (Lr := Ll) (xs := icells (rMeth r (P2 + 1) i)) (ys := [.int .i64 (r.getD (P2 + 1 + 6 * i) 0), .int .i64 (rNum r (P2 + 1 + 6 * i)), .int .i64 (r.getD (P2 + 1 + 6 * i + 1) 0)]) (N := i + 1) rfl rfl sl56 el_ins (by decide) (by decide) Try.underlying56 rfl hrl rfl (List.Perm.refl _) (by simp) rfl (by rw [← hxc]; exact Ins.one _) (by omega) (by simp) ?_
       intro A8 cp8 Lr8 hr8
       rw [← hxc, ← icells_snoc, ← rMeth_succ] at hr8
       refine RL.assign rfl ?_
       refine RL.nil ?_
       refine X.region rfl ?_
       refine RL.move rfl ?_
       refine RL.add rfl rfl rfl (by omega) ?_
       refine RL.assign rfl ?_
       refine RL.nil ?_
       refine X.blk ?_
       refine X.region rfl ?_
       refine RL.move rfl ?_
       refine RL.add rfl rfl rfl (by omega) ?_
       refine RL.assign rfl ?_
       refine RL.nil ?_
       refine X.hyp ⟨rfl, i + 1, by omega, _, (List.Sublist.append (List.Sublist.refl _) (List.sublist_cons_self _ _)), A8, cp8, Lr8, by omega, hr8, ⟨rfl, rfl, rfl, (congrArg (Value.int .i64) (by omega)), rfl, rfl, rfl, rfl, rfl, rfl, rfl, trivial⟩, rfl⟩
     ·replace hl4 : ¬ ((_ : Int) < _) := hl4
      have hie : i = (r.getD P2 0).toNat := by omega
      subst hie
      have hms1 : (rMeths r (P + 17 + 17 * (r.getD (P + 16) 0).toNat + 2) (j + 1)).1 = (rMeths r (P + 17 + 17 * (r.getD (P + 16) 0).toNat + 2) j).1 ++ [rMeth r (P2 + 1) (r.getD P2 0).toNat] := by rw [← hP2]; rfl
      have hjl1 : ((rMeths r (P + 17 + 17 * (r.getD (P + 16) 0).toNat + 2) (j + 1)).1).length = j + 1 := by rw [hms1, List.length_append, hjl]; rfl
      have hrl2 : Row 61 3 (.slice Al (rMeth r (P2 + 1) (r.getD P2 0).toNat).length cl2) (icells (rMeth r (P2 + 1) (r.getD P2 0).toNat)) Ll := by rw [rMeth_len]; exact hrl
      have hlr : (rMeth r (P2 + 1) (r.getD P2 0).toNat).length ≤ 1000 := by rw [rMeth_len]; omega
      refine RL.nil ?_
      refine X.cond_f rfl ?_
      refine X.exit rfl ?_
      refine X.region rfl ?_
      refine RL.fieldAddr rfl fd38_3 rfl ?_
      refine RL.loadO rfl sc36 rfl (clCells_m hid) ?_
      refine RL.move rfl ?_
      refine RL.bs1 (l := [.slice Al (r.getD P2 0).toNat cl2]) rfl rfl sl36 zt56 rfl rfl rfl (by decide) ?_
      intro bb63 hbb63
      refine RL.perm (L' := Lmm ++ ((bb63, cel 56 [.slice Al (r.getD P2 0).toNat cl2]) :: (Ll ++ (Lms ++ (Lf ++ ((b7, cel 38 (clCells (rId r P) (.slice Af (r.getD (P + 16) 0).toNat cf) (r.getD (P + 17 + 17 * (r.getD (P + 16) 0).toNat) 0) (.slice Am2 ((rMeths r (P + 17 + 17 * (r.getD (P + 16) 0).toNat + 2) j).1).length cm2))) :: (Lm ++ (Ls ++ [(b4, cel 24 [.slice Am ((rCls r g).1).length cm]), (b2, cel 24 [.slice none 0 0])])))))))) rfl (by classical exact List.perm_iff_count.2 (fun z => by simp only [List.count_append, List.count_cons, List.count_nil, List.cons_append, List.nil_append, List.set_cons_zero, List.set_cons_succ] <;> omega)) ?_
      refine RL.appB (Lr := Lmm) (xs := ms) (ys := [.slice Al (r.getD P2 0).toNat cl2]) (N := ((rMeths r (P + 17 + 17 * (r.getD (P + 16) 0).toNat + 2) (j + 1)).1).length) rfl rfl sl36 el_sl (by decide) (by decide) Try.underlying36 rfl hrm2 rfl (List.Perm.refl _) (by simp) rfl (by simp [Value.oneCell']) (by omega) (by rw [hjl1, hjl]) ?_
      intro A64 cp64 Lr64 hr64
      refine RL.fieldAddr rfl fd38_3 rfl ?_
      refine RL.stS rfl rfl sc36.size rfl rfl (by rw [clCells_len hid]; decide) ?_
      rw [clCells_setm hid]
      refine RL.perm (L' := Lr64 ++ ((Lms ++ Ll) ++ (Lf ++ ((b7, cel 38 (clCells (rId r P) (.slice Af (r.getD (P + 16) 0).toNat cf) (r.getD (P + 17 + 17 * (r.getD (P + 16) 0).toNat) 0) (.slice A64 ((rMeths r (P + 17 + 17 * (r.getD (P + 16) 0).toNat + 2) (j + 1)).1).length cp64))) :: (Lm ++ (Ls ++ [(b4, cel 24 [.slice Am ((rCls r g).1).length cm]), (b2, cel 24 [.slice none 0 0]), (bb63, cel 56 [.slice Al (r.getD P2 0).toNat cl2])])))))) rfl (by classical exact List.perm_iff_count.2 (fun z => by simp only [List.count_append, List.count_cons, List.count_nil, List.cons_append, List.nil_append, List.set_cons_zero, List.set_cons_succ] <;> omega)) ?_
      refine RL.nil ?_
      refine X.blk ?_
      refine X.region rfl ?_
      refine RL.move rfl ?_
      refine RL.add rfl rfl rfl (by omega) ?_
      refine RL.assign rfl ?_
      refine RL.nil ?_
      refine X.hyp ⟨rfl, j + 1, by omega, _, (List.Sublist.append (List.Sublist.refl _) (List.Sublist.append (List.Sublist.refl _) (List.Sublist.append (List.Sublist.refl _) (.cons_cons _ (List.Sublist.append (List.Sublist.refl _) (List.Sublist.append (List.Sublist.refl _) (.cons_cons _ (.cons_cons _ (List.nil_sublist _))))))))), (P2 + 1 + 6 * (r.getD P2 0).toNat), A64, cp64, ms ++ [.slice Al (r.getD P2 0).toNat cl2], Lr64, Lms ++ Ll, by omega, (by rw [← hP2]; rfl), by omega, hjl1, (by rw [hms1]; exact all_snoc hlz hlr), hr64, (by rw [hms1]; have h9 := hmo2.snoc hrl2; rw [rMeth_len] at h9; exact h9), ⟨rfl, rfl, rfl, rfl, rfl, rfl, rfl, rfl, trivial⟩, rfl⟩
    ·replace hl3 : ¬ ((_ : Int) < _) := hl3
     have hje : j = (r.getD (P + 17 + 17 * (r.getD (P + 16) 0).toNat + 1) 0).toNat := by omega
     subst hje
     have hcl1 : (rCls r (g + 1)).1 = (rCls r g).1 ++ [(⟨rId r P, rFaces r (P + 17) (r.getD (P + 16) 0).toNat, r.getD (P + 17 + 17 * (r.getD (P + 16) 0).toNat) 0, (rMeths r (P + 17 + 17 * (r.getD (P + 16) 0).toNat + 2) (r.getD (P + 17 + 17 * (r.getD (P + 16) 0).toNat + 1) 0).toNat).1⟩ : Cl)] := by rw [← hP]; rfl
     have hgl1 : ((rCls r (g + 1)).1).length = g + 1 := by rw [hcl1, List.length_append, hgl]; rfl
     have hP1 : (rCls r (g + 1)).2 = P2 := by rw [← hP2]; show (rClass r (rCls r g).2).2 = _; rw [hP]; rfl
     have hco1 : ClO (⟨rId r P, rFaces r (P + 17) (r.getD (P + 16) 0).toNat, r.getD (P + 17 + 17 * (r.getD (P + 16) 0).toNat) 0, (rMeths r (P + 17 + 17 * (r.getD (P + 16) 0).toNat + 2) (r.getD (P + 17 + 17 * (r.getD (P + 16) 0).toNat + 1) 0).toNat).1⟩ : Cl) (clCells (rId r P) (.slice Af (r.getD (P + 16) 0).toNat cf) (r.getD (P + 17 + 17 * (r.getD (P + 16) 0).toNat) 0) (.slice Am2 ((rMeths r (P + 17 + 17 * (r.getD (P + 16) 0).toNat + 2) (r.getD (P + 17 + 17 * (r.getD (P + 16) 0).toNat + 1) 0).toNat).1).length cm2)) (Lf ++ (Lmm ++ Lms)) := ⟨hid, rFaces_ok _ _ _, Af, cf, Am2, cm2, ms, Lf, Lmm, Lms, (by simp only [rFaces_len]), (by simp only [rFaces_len]; exact hrf), hrm2, hmo2, rfl⟩
     have hcz1 : ClSz (⟨rId r P, rFaces r (P + 17) (r.getD (P + 16) 0).toNat, r.getD (P + 17 + 17 * (r.getD (P + 16) 0).toNat) 0, (rMeths r (P + 17 + 17 * (r.getD (P + 16) 0).toNat + 2) (r.getD (P + 17 + 17 * (r.getD (P + 16) 0).toNat + 1) 0).toNat).1⟩ : Cl) := ⟨by show (rFaces _ _ _).length ≤ 1000; rw [rFaces_len]; omega, by show ((rMeths r (P + 17 + 17 * (r.getD (P + 16) 0).toNat + 2) (r.getD (P + 17 + 17 * (r.getD (P + 16) 0).toNat + 1) 0).toNat).1).length ≤ 1000; omega, hlz⟩
     refine RL.nil ?_
     refine X.cond_f rfl ?_
     refine X.exit rfl ?_
     refine X.region rfl ?_
     refine RL.fieldAddr rfl fd24_0 rfl ?_
     refine RL.loadO rfl sc22 rfl rfl ?_
     refine RL.loadOA rfl ag38 rfl (take_all (clCells_len hid)) (clCells_len hid) ?_
     refine RL.bs1A rfl rfl sl22 zt38 rfl (clCells_len hid) (by decide) ?_
     intro bb17 hbb17
     refine RL.perm (L' := Lm ++ ((bb17, cel 38 (clCells (rId r P) (.slice Af (r.getD (P + 16) 0).toNat cf) (r.getD (P + 17 + 17 * (r.getD (P + 16) 0).toNat) 0) (.slice Am2 ((rMeths r (P + 17 + 17 * (r.getD (P + 16) 0).toNat + 2) (r.getD (P + 17 + 17 * (r.getD (P + 16) 0).toNat + 1) 0).toNat).1).length cm2))) :: (Lmm ++ (Lms ++ (Lf ++ ((b7, cel 38 (clCells (rId r P) (.slice Af (r.getD (P + 16) 0).toNat cf) (r.getD (P + 17 + 17 * (r.getD (P + 16) 0).toNat) 0) (.slice Am2 ((rMeths r (P + 17 + 17 * (r.getD (P + 16) 0).toNat + 2) (r.getD (P + 17 + 17 * (r.getD (P + 16) 0).toNat + 1) 0).toNat).1).length cm2))) :: (Ls ++ [(b4, cel 24 [.slice Am ((rCls r g).1).length cm]), (b2, cel 24 [.slice none 0 0])]))))))) rfl (by classical exact List.perm_iff_count.2 (fun z => by simp only [List.count_append, List.count_cons, List.count_nil, List.cons_append, List.nil_append, List.set_cons_zero, List.set_cons_succ] <;> omega)) ?_
     refine RL.appB (Lr := Lm) (xs := css.flatten) (ys := clCells (rId r P) (.slice Af (r.getD (P + 16) 0).toNat cf) (r.getD (P + 17 + 17 * (r.getD (P + 16) 0).toNat) 0) (.slice Am2 ((rMeths r (P + 17 + 17 * (r.getD (P + 16) 0).toNat + 2) (r.getD (P + 17 + 17 * (r.getD (P + 16) 0).toNat + 1) 0).toNat).1).length cm2)) (N := ((rCls r (g + 1)).1).length) rfl rfl sl22 el_cl (by decide) (by decide) Try.underlying22 rfl hrm rfl (List.Perm.refl _) (by simp) (clCells_len hid) clCells_one (by omega) (by rw [hgl1, hgl]) ?_
     intro A18 cp18 Lr18 hr18
     rw [show css.flatten ++ clCells (rId r P) (.slice Af (r.getD (P + 16) 0).toNat cf) (r.getD (P + 17 + 17 * (r.getD (P + 16) 0).toNat) 0) (.slice Am2 ((rMeths r (P + 17 + 17 * (r.getD (P + 16) 0).toNat + 2) (r.getD (P + 17 + 17 * (r.getD (P + 16) 0).toNat + 1) 0).toNat).1).length cm2) = (css ++ [clCells (rId r P) (.slice Af (r.getD (P + 16) 0).toNat cf) (r.getD (P + 17 + 17 * (r.getD (P + 16) 0).toNat) 0) (.slice Am2 ((rMeths r (P + 17 + 17 * (r.getD (P + 16) 0).toNat + 2) (r.getD (P + 17 + 17 * (r.getD (P + 16) 0).toNat + 1) 0).toNat).1).length cm2)]).flatten by simp] at hr18
     refine RL.fieldAddr rfl fd24_0 rfl ?_
     refine RL.stS rfl rfl sc22.size rfl rfl (by simp) ?_
     rw [show (0 + 0 : Nat) = 0 from rfl, List.set_cons_zero]
     refine RL.perm (L' := Lr18 ++ ((Ls ++ (Lf ++ (Lmm ++ Lms))) ++ [(b4, cel 24 [.slice A18 ((rCls r (g + 1)).1).length cp18]), (b2, cel 24 [.slice none 0 0]), (b7, cel 38 (clCells (rId r P) (.slice Af (r.getD (P + 16) 0).toNat cf) (r.getD (P + 17 + 17 * (r.getD (P + 16) 0).toNat) 0) (.slice Am2 ((rMeths r (P + 17 + 17 * (r.getD (P + 16) 0).toNat + 2) (r.getD (P + 17 + 17 * (r.getD (P + 16) 0).toNat + 1) 0).toNat).1).length cm2))), (bb17, cel 38 (clCells (rId r P) (.slice Af (r.getD (P + 16) 0).toNat cf) (r.getD (P + 17 + 17 * (r.getD (P + 16) 0).toNat) 0) (.slice Am2 ((rMeths r (P + 17 + 17 * (r.getD (P + 16) 0).toNat + 2) (r.getD (P + 17 + 17 * (r.getD (P + 16) 0).toNat + 1) 0).toNat).1).length cm2)))])) rfl (by classical exact List.perm_iff_count.2 (fun z => by simp only [List.count_append, List.count_cons, List.count_nil, List.cons_append, List.nil_append, List.set_cons_zero, List.set_cons_succ] <;> omega)) ?_
     refine RL.nil ?_
     refine X.blk ?_
     refine X.region rfl ?_
     refine RL.move rfl ?_
     refine RL.add rfl rfl rfl (by omega) ?_
     refine RL.assign rfl ?_
     refine RL.nil ?_
     refine X.hyp ⟨rfl, g + 1, by omega, _, (List.Sublist.append (List.Sublist.refl _) (List.Sublist.append (List.Sublist.refl _) (.cons_cons _ (.cons_cons _ (List.nil_sublist _))))), P2, A18, cp18, css ++ [clCells (rId r P) (.slice Af (r.getD (P + 16) 0).toNat cf) (r.getD (P + 17 + 17 * (r.getD (P + 16) 0).toNat) 0) (.slice Am2 ((rMeths r (P + 17 + 17 * (r.getD (P + 16) 0).toNat + 2) (r.getD (P + 17 + 17 * (r.getD (P + 16) 0).toNat + 1) 0).toNat).1).length cm2)], Lr18, Ls ++ (Lf ++ (Lmm ++ Lms)), by omega, hP1, by omega, hgl1, (by rw [hcl1]; exact all_snoc hcz hcz1), hr18, (by rw [hcl1]; exact hco.snoc hco1), ⟨rfl, rfl, rfl, rfl, rfl, trivial⟩, rfl⟩
  ·replace hlp : ¬ ((_ : Int) < _) := hlp
   have hst : g = (r.getD 0 0).toNat ∨ r.length ≤ (rCls r g).2 := .inr (by rw [hP]; omega)
   have hmo : ModO (rCls r g).1 Am cm (Lm ++ Ls) := ⟨css, Lm, Ls, hrm, hco, rfl⟩
   have hml : ((rCls r g).1).length ≤ 1000 := by omega
   refine RL.pick_t rfl rfl ?_
   refine RL.nil ?_
   refine X.cond_f rfl ?_
   refine X.exit rfl ?_
   refine X.seq ?_
   refine X.seq ?_
   refine X.region rfl ?_
   refine RL.loadOA rfl ag24 rfl (show List.take 1 (List.drop 0 [.slice Am ((rCls r g).1).length cm]) = [.slice Am ((rCls r g).1).length cm] from rfl) rfl ?_
   refine RL.fnQ (v := .tuple #[.int .i64 (mcheckP (rCls r g).1).1, .int .i64 (mcheckP (rCls r g).1).2]) rfl rfl en11 (fun w1 hw1 => f_rmcheck (rCls r g).1 hcz hml Am cm w1 (hmo.reads hw1 (fun p hp => by rcases List.mem_append.1 hp with hp | hp <;> simp [hp]))) rfl ?_
   refine RL.move rfl ?_
   refine RL.extract rfl rfl rfl ?_
   refine RL.extract rfl rfl rfl ?_
   refine RL.assign rfl ?_
   refine RL.assign rfl ?_
   refine RL.nil ?_
   refine X.seq ?_
   refine X.region rfl ?_
   refine RL.move rfl ?_
   refine RL.cmp_s rfl rfl rfl rfl (fun hv => ?_) (fun hv => ?_)
   ·replace hv : (_ : Int) ≠ _ := hv
    have hN : decP r = none := ref_none hbyt hg hst (fun h => hv h.1)
    refine RL.move rfl ?_
    refine RL.skip rfl ?_
    refine RL.skip rfl ?_
    refine RL.skip rfl ?_
    refine RL.skip rfl ?_
    refine RL.skip rfl ?_
    refine RL.pick_t rfl rfl ?_
    refine RL.nil ?_
    refine X.cond_t rfl ?_
    refine X.seq ?_
    refine X.region rfl ?_
    refine RL.bldC (vs := []) (cells := [.slice none 0 0]) rfl rfl (fun w => by kernel_rfl) ?_
    refine RL.stA rfl rfl ag24.size rfl rfl rfl rfl (by simp [Value.oneCell']) ?_
    refine RL.assign rfl ?_
    refine RL.nil ?_
    refine X.ret ?_
    exact retcA2 rfl ag24 rfl rfl (.inr ⟨hN, rfl⟩)
   ·replace hv : ¬ ((_ : Int) ≠ _) := hv
    have hv2 : (mcheckP (rCls r g).1).2 = 0 := Decidable.not_not.1 hv
    refine RL.move rfl ?_
    refine RL.loadOA rfl ag24 rfl (show List.take 1 (List.drop 0 [.slice Am ((rCls r g).1).length cm]) = [.slice Am ((rCls r g).1).length cm] from rfl) rfl ?_
    refine RL.fn (Lp := []) (Lr := Lm ++ (Ls ++ [(b4, cel 24 [.slice Am ((rCls r g).1).length cm]), (b2, cel 24 [.slice none 0 0])])) rfl rfl rfl en16 (List.Perm.refl _) (fun w1 hw1 => f_rencode (rCls r g).1 hcz hml Am cm w1 (hmo.reads hw1 (fun p hp => by rcases List.mem_append.1 hp with hp | hp <;> simp [hp])) hv2) rfl ?_
    rintro _ Lz ⟨A3, n3, cp3, Lr3, rfl, hr3, hs3, hn3⟩
    obtain ⟨hl3, hcp3⟩ := row_len hr3
    rw [gcells_len] at hl3
    subst hl3
    refine RL.drop (L' := Lr3 ++ (Lm ++ (Ls ++ [(b4, cel 24 [.slice Am ((rCls r g).1).length cm]), (b2, cel 24 [.slice none 0 0])]))) rfl (List.Sublist.append hs3 (List.Sublist.refl _)) ?_
    refine RL.move rfl ?_
    refine RL.fnQ (v := .bool (decide (encP (rCls r g).1 = r))) rfl rfl en15 (fun w1 hw1 => f_samebytesG (encP (rCls r g).1) r (by omega) (by omega) A3 A cp3 cp w1 (row_rd hr3 hw1 (fun p hp => List.mem_append_left _ hp)) (hrd.stN hw1 (fun b o he => by simp))) rfl ?_
    by_cases he : encP (rCls r g).1 = r
    ·rw [decide_eq_true he]
     refine RL.not rfl rfl ?_
     refine RL.pick_f rfl rfl ?_
     refine RL.nil ?_
     refine X.cond_f rfl ?_
     refine X.skip ?_
     refine X.seq ?_
     refine X.region rfl ?_
     refine RL.loadOA rfl ag24 rfl (show List.take 1 (List.drop 0 [.slice Am ((rCls r g).1).length cm]) = [.slice Am ((rCls r g).1).length cm] from rfl) rfl ?_
     refine RL.stA rfl rfl ag24.size rfl rfl rfl rfl (by simp [Value.oneCell']) ?_
     refine RL.assign rfl ?_
     refine RL.nil ?_
     refine X.ret ?_
     exact retcA2 rfl ag24 rfl rfl (.inl ⟨(rCls r g).1, Am, cm, Lm ++ Ls, ref_yes (fun c hc => rCls_ids r g c hc) hv2 he, rfl, hmo, by simp [List.sublist_append_of_sublist_right]⟩)
    ·rw [decide_eq_false he]
     have hN : decP r = none := ref_none hbyt hg hst (fun h => he h.2)
     refine RL.not rfl rfl ?_
     refine RL.pick_f rfl rfl ?_
     refine RL.nil ?_
     refine X.cond_t rfl ?_
     refine X.seq ?_
     refine X.region rfl ?_
     refine RL.bldC (vs := []) (cells := [.slice none 0 0]) rfl rfl (fun w => by kernel_rfl) ?_
     refine RL.stA rfl rfl ag24.size rfl rfl rfl rfl (by simp [Value.oneCell']) ?_
     refine RL.assign rfl ?_
     refine RL.nil ?_
     refine X.ret ?_
     exact retcA2 rfl ag24 rfl rfl (.inr ⟨hN, rfl⟩)
 ·replace hlt : ¬ ((_ : Int) < _) := hlt
  have hst : g = (r.getD 0 0).toNat ∨ r.length ≤ (rCls r g).2 := .inl (by omega)
  have hmo : ModO (rCls r g).1 Am cm (Lm ++ Ls) := ⟨css, Lm, Ls, hrm, hco, rfl⟩
  have hml : ((rCls r g).1).length ≤ 1000 := by omega
  refine RL.move rfl ?_
  refine RL.skip rfl ?_
  refine RL.skip rfl ?_
  refine RL.skip rfl ?_
  refine RL.skip rfl ?_
  refine RL.pick_f rfl rfl ?_
  refine RL.nil ?_
  refine X.cond_f rfl ?_
  refine X.exit rfl ?_
  refine X.seq ?_
  refine X.seq ?_
  refine X.region rfl ?_
  refine RL.loadOA rfl ag24 rfl (show List.take 1 (List.drop 0 [.slice Am ((rCls r g).1).length cm]) = [.slice Am ((rCls r g).1).length cm] from rfl) rfl ?_
  refine RL.fnQ (v := .tuple #[.int .i64 (mcheckP (rCls r g).1).1, .int .i64 (mcheckP (rCls r g).1).2]) rfl rfl en11 (fun w1 hw1 => f_rmcheck (rCls r g).1 hcz hml Am cm w1 (hmo.reads hw1 (fun p hp => by rcases List.mem_append.1 hp with hp | hp <;> simp [hp]))) rfl ?_
  refine RL.move rfl ?_
  refine RL.extract rfl rfl rfl ?_
  refine RL.extract rfl rfl rfl ?_
  refine RL.assign rfl ?_
  refine RL.assign rfl ?_
  refine RL.nil ?_
  refine X.seq ?_
  refine X.region rfl ?_
  refine RL.move rfl ?_
  refine RL.cmp_s rfl rfl rfl rfl (fun hv => ?_) (fun hv => ?_)
  ·replace hv : (_ : Int) ≠ _ := hv
   have hN : decP r = none := ref_none hbyt hg hst (fun h => hv h.1)
   refine RL.move rfl ?_
   refine RL.skip rfl ?_
   refine RL.skip rfl ?_
   refine RL.skip rfl ?_
   refine RL.skip rfl ?_
   refine RL.skip rfl ?_
   refine RL.pick_t rfl rfl ?_
   refine RL.nil ?_
   refine X.cond_t rfl ?_
   refine X.seq ?_
   refine X.region rfl ?_
   refine RL.bldC (vs := []) (cells := [.slice none 0 0]) rfl rfl (fun w => by kernel_rfl) ?_
   refine RL.stA rfl rfl ag24.size rfl rfl rfl rfl (by simp [Value.oneCell']) ?_
   refine RL.assign rfl ?_
   refine RL.nil ?_
   refine X.ret ?_
   exact retcA2 rfl ag24 rfl rfl (.inr ⟨hN, rfl⟩)
  ·replace hv : ¬ ((_ : Int) ≠ _) := hv
   have hv2 : (mcheckP (rCls r g).1).2 = 0 := Decidable.not_not.1 hv
   refine RL.move rfl ?_
   refine RL.loadOA rfl ag24 rfl (show List.take 1 (List.drop 0 [.slice Am ((rCls r g).1).length cm]) = [.slice Am ((rCls r g).1).length cm] from rfl) rfl ?_
   refine RL.fn (Lp := []) (Lr := Lm ++ (Ls ++ [(b4, cel 24 [.slice Am ((rCls r g).1).length cm]), (b2, cel 24 [.slice none 0 0])])) rfl rfl rfl en16 (List.Perm.refl _) (fun w1 hw1 => f_rencode (rCls r g).1 hcz hml Am cm w1 (hmo.reads hw1 (fun p hp => by rcases List.mem_append.1 hp with hp | hp <;> simp [hp])) hv2) rfl ?_
   rintro _ Lz ⟨A3, n3, cp3, Lr3, rfl, hr3, hs3, hn3⟩
   obtain ⟨hl3, hcp3⟩ := row_len hr3
   rw [gcells_len] at hl3
   subst hl3
   refine RL.drop (L' := Lr3 ++ (Lm ++ (Ls ++ [(b4, cel 24 [.slice Am ((rCls r g).1).length cm]), (b2, cel 24 [.slice none 0 0])]))) rfl (List.Sublist.append hs3 (List.Sublist.refl _)) ?_
   refine RL.move rfl ?_
   refine RL.fnQ (v := .bool (decide (encP (rCls r g).1 = r))) rfl rfl en15 (fun w1 hw1 => f_samebytesG (encP (rCls r g).1) r (by omega) (by omega) A3 A cp3 cp w1 (row_rd hr3 hw1 (fun p hp => List.mem_append_left _ hp)) (hrd.stN hw1 (fun b o he => by simp))) rfl ?_
   by_cases he : encP (rCls r g).1 = r
   ·rw [decide_eq_true he]
    refine RL.not rfl rfl ?_
    refine RL.pick_f rfl rfl ?_
    refine RL.nil ?_
    refine X.cond_f rfl ?_
    refine X.skip ?_
    refine X.seq ?_
    refine X.region rfl ?_
    refine RL.loadOA rfl ag24 rfl (show List.take 1 (List.drop 0 [.slice Am ((rCls r g).1).length cm]) = [.slice Am ((rCls r g).1).length cm] from rfl) rfl ?_
    refine RL.stA rfl rfl ag24.size rfl rfl rfl rfl (by simp [Value.oneCell']) ?_
    refine RL.assign rfl ?_
    refine RL.nil ?_
    refine X.ret ?_
    exact retcA2 rfl ag24 rfl rfl (.inl ⟨(rCls r g).1, Am, cm, Lm ++ Ls, ref_yes (fun c hc => rCls_ids r g c hc) hv2 he, rfl, hmo, by simp [List.sublist_append_of_sublist_right]⟩)
   ·rw [decide_eq_false he]
    have hN : decP r = none := ref_none hbyt hg hst (fun h => he h.2)
    refine RL.not rfl rfl ?_
    refine RL.pick_f rfl rfl ?_
    refine RL.nil ?_
    refine X.cond_t rfl ?_
    refine X.seq ?_
    refine X.region rfl ?_
    refine RL.bldC (vs := []) (cells := [.slice none 0 0]) rfl rfl (fun w => by kernel_rfl) ?_
    refine RL.stA rfl rfl ag24.size rfl rfl rfl rfl (by simp [Value.oneCell']) ?_
    refine RL.assign rfl ?_
    refine RL.nil ?_
    refine X.ret ?_
    exact retcA2 rfl ag24 rfl rfl (.inr ⟨hN, rfl⟩)
end Go.Proofs.Ytdnnnbjmjjdcfaa
