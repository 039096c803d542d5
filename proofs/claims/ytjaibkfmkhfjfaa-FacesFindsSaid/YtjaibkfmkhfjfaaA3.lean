/- Lines, being made of, what is common: as the document reckons it. -/
import Derived.Test.YtjaibkfmkhfjfaaA2
set_option linter.unusedVariables false
set_option linter.unusedSimpArgs false
namespace Go.Proofs.Ytjaibkfmkhfjfaa
open Go.RowKit
attribute [local irreducible] X RL W Ctr
theorem f_rline (fs : List Face) (hok : ∀ f ∈ fs, FaceOk f) (hlen : fs.length ≤ 1000) (A : Option Addr) (c : Nat) (w : World) (hrd : Rd w A (fcells fs)) (a : Int) :
    Ctr Try.prog 13 [.slice A fs.length c, .int .i64 a] w [] fun v L => ∃ L1 L2, L = L1 ++ L2 ∧ IRow v (lineP fs a) L1 := by
  obtain ⟨bb, oo, hA0, hc⟩ := hrd
  have hA : 0 < fs.length → A = some ⟨bb, oo, none⟩ := fun h => hA0 (by rw [fcells_len hok]; omega)
  have hll := lineP_len fs a
  refine Ctr.intro0 (n := 34) Try.func13 rfl Try.ntmps13 (Nat.le_of_ble_eq_true rfl) ?_
  refine X.seq ?_
  refine X.region rfl ?_
  refine RL.assign rfl ?_
  refine RL.nil ?_
  refine X.seq ?_
  refine X.region rfl ?_
  refine RL.assign rfl ?_
  refine RL.nil ?_
  refine X.seq ?_
  refine X.region rfl ?_
  refine RL.move rfl ?_
  refine RL.assign rfl ?_
  refine RL.nil ?_
  refine X.seq ?_
  refine X.block ?_
  refine X.loop (γ := Int) (fun g ρ L => ∃ A2 : Option Addr, ∃ cp : Nat, ∃ done : List Int, ∃ Lr : List Ent, (Row 3 1 (.slice A2 done.length cp) (ints done) Lr) ∧ (done ++ lineP fs g = lineP fs a) ∧ Has ρ [(0, .slice A fs.length c), (5, .slice A2 done.length cp), (6, .int .i64 g)] ∧ L = Lr) (fun g => (g + 1).toNat) (a) ⟨_, (by repeat (first | exact List.Sublist.refl _ | exact List.nil_sublist _ | (rw [List.append_nil]; exact List.Sublist.refl _) | exact List.sublist_append_left _ _ | exact (List.sublist_append_left _ _).trans (List.sublist_append_left _ _) | apply List.Sublist.cons_cons | apply List.Sublist.cons | refine List.Sublist.trans ?_ (List.sublist_append_right _ _))), none, 0, [], [], Row.nil, rfl, ⟨rfl, rfl, rfl, trivial⟩, rfl⟩ ?_
  rintro g _ _ ⟨A2, cp, done, Lr, q1, q2, hρ, rfl⟩
  obtain ⟨base, rfl⟩ := hρ.base
  clear hρ
  refine X.seq ?_
  refine X.seq ?_
  refine X.region rfl ?_
  refine RL.move rfl ?_
  refine RL.cmp_s rfl rfl rfl rfl (fun h0 => ?_) (fun h0 => ?_)
  · replace h0 : (_ : Int) ≥ _ := h0
    refine RL.move rfl ?_
    refine RL.move rfl ?_
    refine RL.move rfl ?_
    refine RL.len rfl sl22 rfl ?_
    refine RL.cmp_s rfl rfl rfl rfl (fun h1 => ?_) (fun h1 => ?_)
    · replace h1 : (_ : Int) < _ := h1
      obtain ⟨f, hf⟩ : ∃ f, fs[g.toNat]? = some f := ⟨_, List.getElem?_eq_getElem (by omega)⟩
      have hfo := hok f (List.mem_of_getElem? hf)
      have hst := lineP_step ⟨h0, h1⟩ hf
      have hdl : done.length ≤ 1000 := by have := congrArg List.length q2; rw [List.length_append] at this; omega
      refine RL.pick_t rfl rfl ?_
      refine RL.nil ?_
      refine X.cond_t rfl ?_
      refine X.skip ?_
      refine X.block ?_
      refine X.seq ?_
      refine X.region rfl ?_
      refine RL.move rfl ?_
      refine RL.move rfl ?_
      refine RL.bs1I rfl rfl sl32 zt3 rfl ?_
      intro bb3 hbb3
      refine RL.app1I (Lz := []) rfl rfl sl32 el_int Try.underlying32 (by rw [List.append_nil]) rfl rfl q1 (by rw [ints_length]; omega) (n := (done ++ [g]).length) (by simp [ints_length]) ?_
      intro A3 cp3 Lr3 hr3
      refine RL.assign rfl ?_
      refine RL.nil ?_
      refine X.seq ?_
      refine X.seq ?_
      refine X.region rfl ?_
      refine RL.move rfl ?_
      refine RL.move rfl ?_
      refine RL.indexAddr rfl sl22 rfl rfl (hA (by omega)) (Int.toNat_of_nonneg h0).symm (by omega) ?_
      refine RL.fieldAddr rfl fd30_1 rfl ?_
      refine RL.loadI rfl sc3 rfl (face_base_at hc hok hf) (by simp) ?_
      refine RL.move rfl ?_
      refine RL.cmp_s rfl rfl rfl rfl (fun h2 => ?_) (fun h2 => ?_)
      · replace h2 : (_ : Int) ≥ _ := h2
        refine RL.nil ?_
        refine X.cond_t rfl ?_
        refine X.seq ?_
        refine X.region rfl ?_
        refine RL.move rfl ?_
        refine RL.assign rfl ?_
        refine RL.nil ?_
        refine X.ret ?_
        refine ret1 rfl ?_
        show ∃ L1 L2, _ = L1 ++ L2 ∧ IRow _ _ _
        rw [if_pos h2] at hst
        rw [hst] at q2
        rw [← q2]
        exact ⟨_, _, rfl, IRow.app hr3⟩
      · replace h2 : ¬ ((_ : Int) ≥ _) := h2
        refine RL.nil ?_
        refine X.cond_f rfl ?_
        refine X.skip ?_
        refine X.region rfl ?_
        refine RL.move rfl ?_
        refine RL.move rfl ?_
        refine RL.indexAddr rfl sl22 rfl rfl (hA (by omega)) (Int.toNat_of_nonneg h0).symm (by omega) ?_
        refine RL.fieldAddr rfl fd30_1 rfl ?_
        refine RL.loadI rfl sc3 rfl (face_base_at hc hok hf) (by simp) ?_
        refine RL.assign rfl ?_
        refine RL.nil ?_
        refine X.blk ?_
        refine X.hyp ⟨rfl, f.base, by omega, _, (by repeat (first | exact List.Sublist.refl _ | exact List.nil_sublist _ | (rw [List.append_nil]; exact List.Sublist.refl _) | exact List.sublist_append_left _ _ | exact (List.sublist_append_left _ _).trans (List.sublist_append_left _ _) | apply List.Sublist.cons_cons | apply List.Sublist.cons | refine List.Sublist.trans ?_ (List.sublist_append_right _ _))), A3, cp3, done ++ [g], Lr3, hr3.irow, by rw [if_neg h2] at hst; rw [← q2, hst]; simp, ⟨rfl, rfl, rfl, trivial⟩, rfl⟩
    · replace h1 : ¬ ((_ : Int) < _) := h1
      refine RL.pick_t rfl rfl ?_
      refine RL.nil ?_
      refine X.cond_f rfl ?_
      refine X.exit rfl ?_
      refine X.seq ?_
      refine X.region rfl ?_
      refine RL.move rfl ?_
      refine RL.assign rfl ?_
      refine RL.nil ?_
      refine X.ret ?_
      refine ret1 rfl ?_
      show ∃ L1 L2, _ = L1 ++ L2 ∧ IRow _ _ _
      rw [lineP_out (by omega), List.append_nil] at q2
      rw [← q2]
      exact ⟨_, [], (List.append_nil _).symm, _, _, rfl, q1⟩
  · replace h0 : ¬ ((_ : Int) ≥ _) := h0
    refine RL.move rfl ?_
    refine RL.skip rfl ?_
    refine RL.skip rfl ?_
    refine RL.skip rfl ?_
    refine RL.skip rfl ?_
    refine RL.pick_f rfl rfl ?_
    refine RL.nil ?_
    refine X.cond_f rfl ?_
    refine X.exit rfl ?_
    refine X.seq ?_
    refine X.region rfl ?_
    refine RL.move rfl ?_
    refine RL.assign rfl ?_
    refine RL.nil ?_
    refine X.ret ?_
    refine ret1 rfl ?_
    show ∃ L1 L2, _ = L1 ++ L2 ∧ IRow _ _ _
    rw [lineP_out (by omega), List.append_nil] at q2
    rw [← q2]
    exact ⟨_, [], (List.append_nil _).symm, _, _, rfl, q1⟩
theorem f_ris (fs : List Face) (hok : ∀ f ∈ fs, FaceOk f) (hlen : fs.length ≤ 1000) (A : Option Addr) (c : Nat) (w : World) (hrd : Rd w A (fcells fs)) (i j : Int) :
    Ctr Try.prog 20 [.slice A fs.length c, .int .i64 i, .int .i64 j] w [] fun v _ => v = .bool (isP fs i j) := by
  have hrd1 := hrd
  have hll := lineP_len fs i
  refine Ctr.intro0 (n := 24) Try.func20 rfl Try.ntmps20 (Nat.le_of_ble_eq_true rfl) ?_
  refine X.seq ?_
  refine X.region rfl ?_
  refine RL.assign rfl ?_
  refine RL.nil ?_
  refine X.seq ?_
  refine X.region rfl ?_
  refine RL.move rfl ?_
  refine RL.move rfl ?_
  refine RL.fn0 rfl rfl rfl en13 (fun w hw => (f_rline fs hok hlen A c w (hrd1.st0 hw) i)) rfl ?_
  rintro _ _ ⟨L1, L2, rfl, A2, cp, rfl, hrow⟩
  refine RL.assign rfl ?_
  refine RL.nil ?_
  refine X.seq ?_
  refine X.seq ?_
  refine X.region rfl ?_
  refine RL.assign rfl ?_
  refine RL.nil ?_
  refine X.block ?_
  refine X.loop (γ := Nat) (fun g ρ L => (g ≤ (lineP fs i).length) ∧ (∀ (k : Nat) y, k < g → (lineP fs i)[k]? = some y → y ≠ j) ∧ Has ρ [(2, .int .i64 j), (7, .slice A2 (lineP fs i).length cp), (8, .int .i64 g)] ∧ L = L1) (fun g => (lineP fs i).length - g) (0) ⟨_, (by repeat (first | exact List.Sublist.refl _ | exact List.nil_sublist _ | (rw [List.append_nil]; exact List.Sublist.refl _) | exact List.sublist_append_left _ _ | exact (List.sublist_append_left _ _).trans (List.sublist_append_left _ _) | apply List.Sublist.cons_cons | apply List.Sublist.cons | refine List.Sublist.trans ?_ (List.sublist_append_right _ _))), Nat.zero_le _, fun k y hk => absurd hk (Nat.not_lt_zero k), ⟨rfl, rfl, rfl, trivial⟩, rfl⟩ ?_
  rintro g _ _ ⟨q1, q2, hρ, rfl⟩
  obtain ⟨base, rfl⟩ := hρ.base
  clear hρ
  refine X.seq ?_
  refine X.seq ?_
  refine X.region rfl ?_
  refine RL.move rfl ?_
  refine RL.move rfl ?_
  refine RL.len rfl sl32 rfl ?_
  refine RL.cmp_s rfl rfl rfl rfl (fun h => ?_) (fun h => ?_)
  · replace h : (_ : Int) < _ := h
    obtain ⟨b, junk, rfl, rfl⟩ := hrow.open (by omega)
    obtain ⟨x, hx⟩ : ∃ x, (lineP fs i)[g]? = some x := ⟨_, List.getElem?_eq_getElem (by omega)⟩
    refine RL.nil ?_
    refine X.cond_t rfl ?_
    refine X.skip ?_
    refine X.seq ?_
    refine X.block ?_
    refine X.seq ?_
    refine X.region rfl ?_
    refine RL.move rfl ?_
    refine RL.move rfl ?_
    refine RL.indexAddr rfl sl32 rfl rfl rfl rfl (by omega) ?_
    refine RL.loadO rfl sc3 rfl (ints_app_get hx) ?_
    refine RL.move rfl ?_
    refine RL.cmp_s rfl rfl rfl rfl (fun he => ?_) (fun he => ?_)
    · replace he : (_ : Int) = _ := he
      refine RL.nil ?_
      refine X.cond_t rfl ?_
      refine X.seq ?_
      refine X.region rfl ?_
      refine RL.assign rfl ?_
      refine RL.nil ?_
      refine X.ret ?_
      refine ret1 rfl ?_
      show (_ : Value) = _
      unfold isP
      rw [decide_eq_true (he ▸ List.mem_of_getElem? hx)]
    · replace he : ¬ ((_ : Int) = _) := he
      refine RL.nil ?_
      refine X.cond_f rfl ?_
      refine X.skip ?_
      refine X.blk ?_
      refine X.region rfl ?_
      refine RL.move rfl ?_
      refine RL.add rfl rfl rfl (by omega) ?_
      refine RL.assign rfl ?_
      refine RL.nil ?_
      refine X.hyp ⟨rfl, g + 1, by omega, _, (by repeat (first | exact List.Sublist.refl _ | exact List.nil_sublist _ | (rw [List.append_nil]; exact List.Sublist.refl _) | exact List.sublist_append_left _ _ | exact (List.sublist_append_left _ _).trans (List.sublist_append_left _ _) | apply List.Sublist.cons_cons | apply List.Sublist.cons | refine List.Sublist.trans ?_ (List.sublist_append_right _ _))), by omega, step_at q2 hx he, ⟨rfl, rfl, rfl, trivial⟩, rfl⟩
  · replace h : ¬ ((_ : Int) < _) := h
    refine RL.nil ?_
    refine X.cond_f rfl ?_
    refine X.exit rfl ?_
    refine X.seq ?_
    refine X.region rfl ?_
    refine RL.assign rfl ?_
    refine RL.nil ?_
    refine X.ret ?_
    refine ret1 rfl ?_
    show (_ : Value) = _
    unfold isP
    rw [decide_eq_false]
    intro hm
    obtain ⟨k, hk⟩ := List.getElem?_of_mem hm
    have := (List.getElem?_eq_some_iff.1 hk).1
    exact q2 k j (by omega) hk rfl
theorem f_rcommon (fs : List Face) (hok : ∀ f ∈ fs, FaceOk f) (hlen : fs.length ≤ 1000) (A : Option Addr) (c : Nat) (w : World) (hrd : Rd w A (fcells fs)) (i j : Int) :
    Ctr Try.prog 18 [.slice A fs.length c, .int .i64 i, .int .i64 j] w [] fun v _ => v = .int .i64 ((commonP fs i j).getD (-1)) := by
  have hrd1 := hrd
  have hll := lineP_len fs i
  refine Ctr.intro0 (n := 29) Try.func18 rfl Try.ntmps18 (Nat.le_of_ble_eq_true rfl) ?_
  refine X.seq ?_
  refine X.region rfl ?_
  refine RL.assign rfl ?_
  refine RL.nil ?_
  refine X.seq ?_
  refine X.region rfl ?_
  refine RL.move rfl ?_
  refine RL.move rfl ?_
  refine RL.fn0 rfl rfl rfl en13 (fun w hw => (f_rline fs hok hlen A c w (hrd1.st0 hw) i)) rfl ?_
  rintro _ _ ⟨L1, L2, rfl, A2, cp, rfl, hrow⟩
  refine RL.assign rfl ?_
  refine RL.nil ?_
  refine X.seq ?_
  refine X.seq ?_
  refine X.region rfl ?_
  refine RL.assign rfl ?_
  refine RL.nil ?_
  refine X.block ?_
  refine X.loop (γ := Nat) (fun g ρ L => (g ≤ (lineP fs i).length) ∧ (∀ (k : Nat) y, k < g → (lineP fs i)[k]? = some y → isP fs j y = false) ∧ Has ρ [(0, .slice A fs.length c), (1, .int .i64 i), (2, .int .i64 j), (7, .slice A2 (lineP fs i).length cp), (8, .int .i64 g)] ∧ L = L1) (fun g => (lineP fs i).length - g) (0) ⟨_, (by repeat (first | exact List.Sublist.refl _ | exact List.nil_sublist _ | (rw [List.append_nil]; exact List.Sublist.refl _) | exact List.sublist_append_left _ _ | exact (List.sublist_append_left _ _).trans (List.sublist_append_left _ _) | apply List.Sublist.cons_cons | apply List.Sublist.cons | refine List.Sublist.trans ?_ (List.sublist_append_right _ _))), Nat.zero_le _, fun k y hk => absurd hk (Nat.not_lt_zero k), ⟨rfl, rfl, rfl, rfl, rfl, trivial⟩, rfl⟩ ?_
  rintro g _ _ ⟨q1, q2, hρ, rfl⟩
  obtain ⟨base, rfl⟩ := hρ.base
  clear hρ
  refine X.seq ?_
  refine X.seq ?_
  refine X.region rfl ?_
  refine RL.move rfl ?_
  refine RL.move rfl ?_
  refine RL.len rfl sl32 rfl ?_
  refine RL.cmp_s rfl rfl rfl rfl (fun h => ?_) (fun h => ?_)
  · replace h : (_ : Int) < _ := h
    obtain ⟨b, junk, rfl, rfl⟩ := hrow.open (by omega)
    obtain ⟨x, hx⟩ : ∃ x, (lineP fs i)[g]? = some x := ⟨_, List.getElem?_eq_getElem (by omega)⟩
    refine RL.nil ?_
    refine X.cond_t rfl ?_
    refine X.skip ?_
    refine X.seq ?_
    refine X.block ?_
    refine X.seq ?_
    refine X.region rfl ?_
    refine RL.move rfl ?_
    refine RL.move rfl ?_
    refine RL.move rfl ?_
    refine RL.move rfl ?_
    refine RL.indexAddr rfl sl32 rfl rfl rfl rfl (by omega) ?_
    refine RL.loadO rfl sc3 rfl (ints_app_get hx) ?_
    refine RL.fn0 rfl rfl rfl en20 (fun w hw => (f_ris fs hok hlen A c w (hrd1.st0 hw) j x)) rfl ?_
    rintro _ _ rfl
    refine RL.nil ?_
    refine X.cond_b rfl (fun he => ?_) (fun he => ?_)
    · refine X.seq ?_
      refine X.region rfl ?_
      refine RL.move rfl ?_
      refine RL.move rfl ?_
      refine RL.indexAddr rfl sl32 rfl rfl rfl rfl (by omega) ?_
      refine RL.loadO rfl sc3 rfl (ints_app_get hx) ?_
      refine RL.assign rfl ?_
      refine RL.nil ?_
      refine X.ret ?_
      refine ret1 rfl ?_
      show (_ : Value) = _
      unfold commonP
      rw [find_at q2 hx he]
      rfl
    · refine X.skip ?_
      refine X.blk ?_
      refine X.region rfl ?_
      refine RL.move rfl ?_
      refine RL.add rfl rfl rfl (by omega) ?_
      refine RL.assign rfl ?_
      refine RL.nil ?_
      refine X.hyp ⟨rfl, g + 1, by omega, _, (by repeat (first | exact List.Sublist.refl _ | exact List.nil_sublist _ | (rw [List.append_nil]; exact List.Sublist.refl _) | exact List.sublist_append_left _ _ | exact (List.sublist_append_left _ _).trans (List.sublist_append_left _ _) | apply List.Sublist.cons_cons | apply List.Sublist.cons | refine List.Sublist.trans ?_ (List.sublist_append_right _ _))), by omega, step_at (P := fun y => isP fs j y = false) q2 hx he, ⟨rfl, rfl, rfl, rfl, rfl, trivial⟩, rfl⟩
  · replace h : ¬ ((_ : Int) < _) := h
    refine RL.nil ?_
    refine X.cond_f rfl ?_
    refine X.exit rfl ?_
    refine X.seq ?_
    refine X.region rfl ?_
    refine RL.assign rfl ?_
    refine RL.nil ?_
    refine X.ret ?_
    refine ret1 rfl ?_
    show (_ : Value) = _
    unfold commonP
    rw [find_no_at (fun k y hk => q2 k y (by have := (List.getElem?_eq_some_iff.1 hk).1; omega) hk)]
    rfl
end Go.Proofs.Ytjaibkfmkhfjfaa
